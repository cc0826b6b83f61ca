/-
  slices.Sorted at keys of int, at a nil map: at this seat. (Conditions: none beyond what the theorem asks.)
-/
import Derived.Shelf.SlIterI.Nil
import Derived.Shelf.SortM.Plain
import Derived.Shelf.SortM.SortNone
import Derived.Ground.GgzProg
import Derived.Ground.SlgmProg
import Derived.KernelRfl
import Derived.Test.YtjmapihogpdocaaGreatDoorEvSeat
/-! ## EvInt -/
namespace Go.Proofs
open Go.Shelf Go.RowKit Go.Maps Go.Sort
def Tryz.keysI_ren : Go.Shelf.Ren := ⟨fun | 7 => 512 | 10 => 544 | n => n, fun | 23 => 440 | 26 => 3 | 3 => 438 | 28 => 536 | 0 => 0 | 27 => 535 | 33 => 97 | 4 => 4 | n => n, fun | n => n⟩
theorem Tryz.keysI : Go.Proofs.SlLaysZI.n7 Tryz.prog Tryz.keysI_ren := {
  mixed := by kernel_rfl
  f7 := ⟨Tryz.f512.name, by decide, Tryz.func512.trans (congrArg some (by kernel_rfl))⟩
  f10 := ⟨Tryz.f544.name, by decide, Tryz.func544.trans (congrArg some (by kernel_rfl))⟩
  t0 := Tryz.underlying0
  a0 := Tryz.isAgg0
  z0 := Tryz.sizeOf0
  v0 := Tryz.zeroValue0
  t4 := Tryz.underlying4
  a4 := Tryz.isAgg4
  z4 := Tryz.sizeOf4
  v4 := Tryz.zeroValue4
  t23 := Tryz.underlying440
  a23 := Tryz.isAgg440
  z23 := Tryz.sizeOf440
  v23 := Tryz.zeroValue440
  t26 := Tryz.underlying3
  a26 := Tryz.isAgg3
  z26 := Tryz.sizeOf3
  v26 := Tryz.zeroValue3
  t27 := Tryz.underlying535
  a27 := Tryz.isAgg535
  z27 := Tryz.sizeOf535
  v27 := Tryz.zeroValue535
  t28 := Tryz.underlying536
  a28 := Tryz.isAgg536
  z28 := Tryz.sizeOf536
  v28 := Tryz.zeroValue536
  t33 := Tryz.underlying97
  a33 := Tryz.isAgg97
  z33 := Tryz.sizeOf97
  v33 := Tryz.zeroValue97 }
def Tryz.sortedI_ren : Go.Shelf.Ren := ⟨fun | 6 => 511 | 8 => 542 | 9 => 543 | 11 => 551 | 13 => 268 | 12 => 552 | 23 => 373 | 24 => 374 | 14 => 554 | 15 => 555 | 16 => 556 | 17 => 557 | 18 => 558 | 19 => 559 | 20 => 560 | 21 => 561 | 22 => 562 | 25 => 563 | 26 => 452 | 27 => 453 | 28 => 564 | 29 => 565 | 30 => 308 | 31 => 566 | n => n, fun | 26 => 3 | 28 => 536 | 24 => 81 | 0 => 0 | 3 => 3 | 37 => 373 | 48 => 452 | 50 => 454 | 4 => 4 | 40 => 446 | 39 => 445 | 45 => 241 | 5 => 5 | 9 => 9 | 51 => 498 | 55 => 502 | 57 => 541 | 58 => 136 | 33 => 97 | n => n, fun | n => n⟩
theorem Tryz.sortedI : Go.Proofs.SlLaysZI.n6 Tryz.prog Tryz.sortedI_ren := {
  mixed := by kernel_rfl
  f6 := ⟨Tryz.f511.name, by decide, Tryz.func511.trans (congrArg some (by kernel_rfl))⟩
  f8 := ⟨Tryz.f542.name, by decide, Tryz.func542.trans (congrArg some (by kernel_rfl))⟩
  f11 := ⟨Tryz.f551.name, by decide, Tryz.func551.trans (congrArg some (by kernel_rfl))⟩
  t0 := Tryz.underlying0
  a0 := Tryz.isAgg0
  z0 := Tryz.sizeOf0
  v0 := Tryz.zeroValue0
  t24 := Tryz.underlying81
  a24 := Tryz.isAgg81
  z24 := Tryz.sizeOf81
  v24 := Tryz.zeroValue81
  t26 := Tryz.underlying3
  a26 := Tryz.isAgg3
  z26 := Tryz.sizeOf3
  v26 := Tryz.zeroValue3
  t28 := Tryz.underlying536
  a28 := Tryz.isAgg536
  z28 := Tryz.sizeOf536
  v28 := Tryz.zeroValue536
  i26 := by kernel_rfl }
def Tryz.sortI_ren : Go.Shelf.Ren := ⟨fun | 5 => 543 | 8 => 268 | 7 => 552 | 19 => 373 | 20 => 374 | 10 => 554 | 11 => 555 | 12 => 556 | 13 => 557 | 14 => 558 | 15 => 559 | 16 => 560 | 17 => 561 | 18 => 562 | 30 => 563 | 31 => 452 | 32 => 453 | 33 => 564 | 34 => 565 | 35 => 308 | 40 => 566 | n => n, fun | 23 => 81 | 25 => 3 | 3 => 3 | 32 => 373 | 22 => 81 | 0 => 0 | 44 => 452 | 46 => 454 | 4 => 4 | 36 => 446 | 35 => 445 | 41 => 241 | 5 => 5 | 9 => 9 | 53 => 498 | 57 => 502 | 63 => 541 | 64 => 136 | n => n, fun | n => n⟩
theorem Tryz.sortI : Go.Proofs.SlLaysM.n5 Tryz.prog Tryz.sortI_ren := {
  mixed := by kernel_rfl
  f5 := ⟨Tryz.f543.name, by decide, Tryz.func543.trans (congrArg some (by kernel_rfl))⟩
  f7 := ⟨Tryz.f552.name, by decide, Tryz.func552.trans (congrArg some (by kernel_rfl))⟩
  f8 := Tryz.func268.trans (congrArg some (by kernel_rfl))
  f10 := ⟨Tryz.f554.name, by decide, Tryz.func554.trans (congrArg some (by kernel_rfl))⟩
  f11 := ⟨Tryz.f555.name, by decide, Tryz.func555.trans (congrArg some (by kernel_rfl))⟩
  f12 := ⟨Tryz.f556.name, by decide, Tryz.func556.trans (congrArg some (by kernel_rfl))⟩
  f13 := ⟨Tryz.f557.name, by decide, Tryz.func557.trans (congrArg some (by kernel_rfl))⟩
  f14 := ⟨Tryz.f558.name, by decide, Tryz.func558.trans (congrArg some (by kernel_rfl))⟩
  f15 := ⟨Tryz.f559.name, by decide, Tryz.func559.trans (congrArg some (by kernel_rfl))⟩
  f16 := ⟨Tryz.f560.name, by decide, Tryz.func560.trans (congrArg some (by kernel_rfl))⟩
  f17 := ⟨Tryz.f561.name, by decide, Tryz.func561.trans (congrArg some (by kernel_rfl))⟩
  f18 := ⟨Tryz.f562.name, by decide, Tryz.func562.trans (congrArg some (by kernel_rfl))⟩
  f19 := Tryz.func373.trans (congrArg some (by kernel_rfl))
  f20 := Tryz.func374.trans (congrArg some (by kernel_rfl))
  f30 := ⟨Tryz.f563.name, by decide, Tryz.func563.trans (congrArg some (by kernel_rfl))⟩
  f31 := Tryz.func452.trans (congrArg some (by kernel_rfl))
  f32 := Tryz.func453.trans (congrArg some (by kernel_rfl))
  f33 := ⟨Tryz.f564.name, by decide, Tryz.func564.trans (congrArg some (by kernel_rfl))⟩
  f34 := ⟨Tryz.f565.name, by decide, Tryz.func565.trans (congrArg some (by kernel_rfl))⟩
  f35 := ⟨Tryz.f308.name, by decide, Tryz.func308.trans (congrArg some (by kernel_rfl))⟩
  f40 := ⟨Tryz.f566.name, by decide, Tryz.func566.trans (congrArg some (by kernel_rfl))⟩
  t0 := Tryz.underlying0
  a0 := Tryz.isAgg0
  z0 := Tryz.sizeOf0
  v0 := Tryz.zeroValue0
  t3 := Tryz.underlying3
  a3 := Tryz.isAgg3
  z3 := Tryz.sizeOf3
  v3 := Tryz.zeroValue3
  t4 := Tryz.underlying4
  a4 := Tryz.isAgg4
  z4 := Tryz.sizeOf4
  v4 := Tryz.zeroValue4
  t5 := Tryz.underlying5
  a5 := Tryz.isAgg5
  z5 := Tryz.sizeOf5
  v5 := Tryz.zeroValue5
  t9 := Tryz.underlying9
  a9 := Tryz.isAgg9
  z9 := Tryz.sizeOf9
  v9 := Tryz.zeroValue9
  t22 := Tryz.underlying81
  a22 := Tryz.isAgg81
  z22 := Tryz.sizeOf81
  v22 := Tryz.zeroValue81
  t23 := Tryz.underlying81
  a23 := Tryz.isAgg81
  z23 := Tryz.sizeOf81
  v23 := Tryz.zeroValue81
  t25 := Tryz.underlying3
  a25 := Tryz.isAgg3
  z25 := Tryz.sizeOf3
  v25 := Tryz.zeroValue3
  t32 := Tryz.underlying373
  a32 := Tryz.isAgg373
  z32 := Tryz.sizeOf373
  v32 := Tryz.zeroValue373
  t35 := Tryz.underlying445
  a35 := Tryz.isAgg445
  z35 := Tryz.sizeOf445
  v35 := Tryz.zeroValue445
  t36 := Tryz.underlying446
  a36 := Tryz.isAgg446
  z36 := Tryz.sizeOf446
  v36 := Tryz.zeroValue446
  t41 := Tryz.underlying241
  a41 := Tryz.isAgg241
  z41 := Tryz.sizeOf241
  v41 := Tryz.zeroValue241
  t44 := Tryz.underlying452
  a44 := Tryz.isAgg452
  z44 := Tryz.sizeOf452
  v44 := Tryz.zeroValue452
  t46 := Tryz.underlying454
  a46 := Tryz.isAgg454
  z46 := Tryz.sizeOf454
  v46 := Tryz.zeroValue454
  t53 := Tryz.underlying498
  a53 := Tryz.isAgg498
  z53 := Tryz.sizeOf498
  v53 := Tryz.zeroValue498
  t57 := Tryz.underlying502
  a57 := Tryz.isAgg502
  z57 := Tryz.sizeOf502
  v57 := Tryz.zeroValue502
  t63 := Tryz.underlying541
  a63 := Tryz.isAgg541
  z63 := Tryz.sizeOf541
  v63 := Tryz.zeroValue541
  t64 := Tryz.underlying136
  a64 := Tryz.isAgg136
  z64 := Tryz.sizeOf136
  v64 := Tryz.zeroValue136 }
theorem Tryz.evSortsI (m : Nat) : AnyZI.SortsIn Tryz.prog Tryz.sortedI_ren Fence.wide m :=
  ⟨fun blk off cap ss W hH hblk hsz => callsIn_wide.2 (AnyM.slices_Sort_int Tryz.sortI blk off cap ss W hH hblk hsz),
   fun p cap W => callsIn_wide.2 (AnyM.slices_Sort_int_none Tryz.sortI p cap W)⟩
set_option maxHeartbeats 1000000 in
theorem Tryz.evNilI (Bm : Nat) (w : World) (hBm : Bm < w.heap.size) (hm : w.cell? ⟨Bm, 0, none⟩ = some (.map none)) :
    Calls Tryz.prog 511 #[.func (.func 544) #[] #[.pointer (some ⟨Bm, 0, none⟩)]] w fun e w' => e = .returned (.slice none 0 0) ∧ Below w.heap.size w w' := by
  have hseq : SeqGives Fence.wide 2 Tryz.prog 544 #[.pointer (some ⟨Bm, 0, none⟩)] encZ (fun ss : List Int => ss = []) 0 w :=
    AnyZI.keys_gives_nil (ρ := Tryz.keysI_ren) { Tryz.keysI with } Fence.wide _ trivial rfl Bm w hBm hm
  refine ((callsIn_wide (n := 5)).1 (AnyZI.sorted_in Tryz.sortedI Fence.wide 5 trivial trivial trivial trivial rfl (by omega) (Tryz.evSortsI _) (enters_of Tryz.func543 (by kernel_rfl) rfl) 544 #[.pointer (some ⟨Bm, 0, none⟩)] trivial (enters_of Tryz.func544 (by kernel_rfl) rfl) _ _ (by decide) (by decide) _ hseq)).mono ?_
  rintro e w' ⟨v, ss, rfl, hss, _, hnil, hb⟩
  exact ⟨by rw [hnil.2 hss], hb⟩
end Go.Proofs
