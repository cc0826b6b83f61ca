/-
  slices.Sorted at keys of int, at a nil map: at this seat. (Conditions: none beyond what the theorem asks.)
-/
import Derived.Shelf.SlIterI.Nil
import Derived.Shelf.SortM.Plain
import Derived.Shelf.SortM.SortNone
import Derived.Ground.GgzProg
import Derived.Ground.SlgmProg
import Derived.KernelRfl
import Derived.Test.YtiichencpnjbgaaGreatDoorEvSeat
/-! ## EvInt -/
namespace Go.Proofs
open Go.Shelf Go.RowKit Go.Maps Go.Sort
def Tryz.keysI_ren : Go.Shelf.Ren := ⟨fun | 7 => 317 | 10 => 345 | n => n, fun | 23 => 260 | 26 => 3 | 3 => 258 | 28 => 333 | 0 => 0 | 27 => 332 | 33 => 245 | 4 => 4 | n => n, fun | n => n⟩
theorem Tryz.keysI : Go.Proofs.SlLaysZI.n7 Tryz.prog Tryz.keysI_ren := {
  mixed := by kernel_rfl
  f7 := ⟨Tryz.f317.name, by decide, Tryz.func317.trans (congrArg some (by kernel_rfl))⟩
  f10 := ⟨Tryz.f345.name, by decide, Tryz.func345.trans (congrArg some (by kernel_rfl))⟩
  t0 := Tryz.underlying0
  a0 := Tryz.isAgg0
  z0 := Tryz.sizeOf0
  v0 := Tryz.zeroValue0
  t4 := Tryz.underlying4
  a4 := Tryz.isAgg4
  z4 := Tryz.sizeOf4
  v4 := Tryz.zeroValue4
  t23 := Tryz.underlying260
  a23 := Tryz.isAgg260
  z23 := Tryz.sizeOf260
  v23 := Tryz.zeroValue260
  t26 := Tryz.underlying3
  a26 := Tryz.isAgg3
  z26 := Tryz.sizeOf3
  v26 := Tryz.zeroValue3
  t27 := Tryz.underlying332
  a27 := Tryz.isAgg332
  z27 := Tryz.sizeOf332
  v27 := Tryz.zeroValue332
  t28 := Tryz.underlying333
  a28 := Tryz.isAgg333
  z28 := Tryz.sizeOf333
  v28 := Tryz.zeroValue333
  t33 := Tryz.underlying245
  a33 := Tryz.isAgg245
  z33 := Tryz.sizeOf245
  v33 := Tryz.zeroValue245 }
def Tryz.sortedI_ren : Go.Shelf.Ren := ⟨fun | 6 => 316 | 8 => 343 | 9 => 344 | 11 => 355 | 13 => 148 | 12 => 356 | 23 => 216 | 24 => 217 | 14 => 357 | 15 => 358 | 16 => 359 | 17 => 360 | 18 => 361 | 19 => 362 | 20 => 363 | 21 => 364 | 22 => 365 | 25 => 366 | 26 => 266 | 27 => 267 | 28 => 367 | 29 => 368 | 30 => 270 | 31 => 369 | n => n, fun | 26 => 3 | 28 => 333 | 24 => 54 | 0 => 0 | 3 => 3 | 37 => 221 | 48 => 272 | 50 => 274 | 4 => 4 | 40 => 266 | 39 => 265 | 45 => 129 | 5 => 5 | 9 => 9 | 51 => 302 | 55 => 306 | 57 => 340 | 58 => 69 | 33 => 245 | n => n, fun | n => n⟩
theorem Tryz.sortedI : Go.Proofs.SlLaysZI.n6 Tryz.prog Tryz.sortedI_ren := {
  mixed := by kernel_rfl
  f6 := ⟨Tryz.f316.name, by decide, Tryz.func316.trans (congrArg some (by kernel_rfl))⟩
  f8 := ⟨Tryz.f343.name, by decide, Tryz.func343.trans (congrArg some (by kernel_rfl))⟩
  f11 := ⟨Tryz.f355.name, by decide, Tryz.func355.trans (congrArg some (by kernel_rfl))⟩
  t0 := Tryz.underlying0
  a0 := Tryz.isAgg0
  z0 := Tryz.sizeOf0
  v0 := Tryz.zeroValue0
  t24 := Tryz.underlying54
  a24 := Tryz.isAgg54
  z24 := Tryz.sizeOf54
  v24 := Tryz.zeroValue54
  t26 := Tryz.underlying3
  a26 := Tryz.isAgg3
  z26 := Tryz.sizeOf3
  v26 := Tryz.zeroValue3
  t28 := Tryz.underlying333
  a28 := Tryz.isAgg333
  z28 := Tryz.sizeOf333
  v28 := Tryz.zeroValue333
  i26 := by kernel_rfl }
def Tryz.sortI_ren : Go.Shelf.Ren := ⟨fun | 5 => 344 | 8 => 148 | 7 => 356 | 19 => 216 | 20 => 217 | 10 => 357 | 11 => 358 | 12 => 359 | 13 => 360 | 14 => 361 | 15 => 362 | 16 => 363 | 17 => 364 | 18 => 365 | 30 => 366 | 31 => 266 | 32 => 267 | 33 => 367 | 34 => 368 | 35 => 270 | 40 => 369 | n => n, fun | 23 => 54 | 25 => 3 | 3 => 3 | 32 => 221 | 22 => 54 | 0 => 0 | 44 => 272 | 46 => 274 | 4 => 4 | 36 => 266 | 35 => 265 | 41 => 129 | 5 => 5 | 9 => 9 | 53 => 302 | 57 => 306 | 63 => 340 | 64 => 69 | n => n, fun | n => n⟩
theorem Tryz.sortI : Go.Proofs.SlLaysM.n5 Tryz.prog Tryz.sortI_ren := {
  mixed := by kernel_rfl
  f5 := ⟨Tryz.f344.name, by decide, Tryz.func344.trans (congrArg some (by kernel_rfl))⟩
  f7 := ⟨Tryz.f356.name, by decide, Tryz.func356.trans (congrArg some (by kernel_rfl))⟩
  f8 := Tryz.func148.trans (congrArg some (by kernel_rfl))
  f10 := ⟨Tryz.f357.name, by decide, Tryz.func357.trans (congrArg some (by kernel_rfl))⟩
  f11 := ⟨Tryz.f358.name, by decide, Tryz.func358.trans (congrArg some (by kernel_rfl))⟩
  f12 := ⟨Tryz.f359.name, by decide, Tryz.func359.trans (congrArg some (by kernel_rfl))⟩
  f13 := ⟨Tryz.f360.name, by decide, Tryz.func360.trans (congrArg some (by kernel_rfl))⟩
  f14 := ⟨Tryz.f361.name, by decide, Tryz.func361.trans (congrArg some (by kernel_rfl))⟩
  f15 := ⟨Tryz.f362.name, by decide, Tryz.func362.trans (congrArg some (by kernel_rfl))⟩
  f16 := ⟨Tryz.f363.name, by decide, Tryz.func363.trans (congrArg some (by kernel_rfl))⟩
  f17 := ⟨Tryz.f364.name, by decide, Tryz.func364.trans (congrArg some (by kernel_rfl))⟩
  f18 := ⟨Tryz.f365.name, by decide, Tryz.func365.trans (congrArg some (by kernel_rfl))⟩
  f19 := Tryz.func216.trans (congrArg some (by kernel_rfl))
  f20 := Tryz.func217.trans (congrArg some (by kernel_rfl))
  f30 := ⟨Tryz.f366.name, by decide, Tryz.func366.trans (congrArg some (by kernel_rfl))⟩
  f31 := Tryz.func266.trans (congrArg some (by kernel_rfl))
  f32 := Tryz.func267.trans (congrArg some (by kernel_rfl))
  f33 := ⟨Tryz.f367.name, by decide, Tryz.func367.trans (congrArg some (by kernel_rfl))⟩
  f34 := ⟨Tryz.f368.name, by decide, Tryz.func368.trans (congrArg some (by kernel_rfl))⟩
  f35 := ⟨Tryz.f270.name, by decide, Tryz.func270.trans (congrArg some (by kernel_rfl))⟩
  f40 := ⟨Tryz.f369.name, by decide, Tryz.func369.trans (congrArg some (by kernel_rfl))⟩
  t0 := Tryz.underlying0
  a0 := Tryz.isAgg0
  z0 := Tryz.sizeOf0
  v0 := Tryz.zeroValue0
  t3 := Tryz.underlying3
  a3 := Tryz.isAgg3
  z3 := Tryz.sizeOf3
  v3 := Tryz.zeroValue3
  t4 := Tryz.underlying4
  a4 := Tryz.isAgg4
  z4 := Tryz.sizeOf4
  v4 := Tryz.zeroValue4
  t5 := Tryz.underlying5
  a5 := Tryz.isAgg5
  z5 := Tryz.sizeOf5
  v5 := Tryz.zeroValue5
  t9 := Tryz.underlying9
  a9 := Tryz.isAgg9
  z9 := Tryz.sizeOf9
  v9 := Tryz.zeroValue9
  t22 := Tryz.underlying54
  a22 := Tryz.isAgg54
  z22 := Tryz.sizeOf54
  v22 := Tryz.zeroValue54
  t23 := Tryz.underlying54
  a23 := Tryz.isAgg54
  z23 := Tryz.sizeOf54
  v23 := Tryz.zeroValue54
  t25 := Tryz.underlying3
  a25 := Tryz.isAgg3
  z25 := Tryz.sizeOf3
  v25 := Tryz.zeroValue3
  t32 := Tryz.underlying221
  a32 := Tryz.isAgg221
  z32 := Tryz.sizeOf221
  v32 := Tryz.zeroValue221
  t35 := Tryz.underlying265
  a35 := Tryz.isAgg265
  z35 := Tryz.sizeOf265
  v35 := Tryz.zeroValue265
  t36 := Tryz.underlying266
  a36 := Tryz.isAgg266
  z36 := Tryz.sizeOf266
  v36 := Tryz.zeroValue266
  t41 := Tryz.underlying129
  a41 := Tryz.isAgg129
  z41 := Tryz.sizeOf129
  v41 := Tryz.zeroValue129
  t44 := Tryz.underlying272
  a44 := Tryz.isAgg272
  z44 := Tryz.sizeOf272
  v44 := Tryz.zeroValue272
  t46 := Tryz.underlying274
  a46 := Tryz.isAgg274
  z46 := Tryz.sizeOf274
  v46 := Tryz.zeroValue274
  t53 := Tryz.underlying302
  a53 := Tryz.isAgg302
  z53 := Tryz.sizeOf302
  v53 := Tryz.zeroValue302
  t57 := Tryz.underlying306
  a57 := Tryz.isAgg306
  z57 := Tryz.sizeOf306
  v57 := Tryz.zeroValue306
  t63 := Tryz.underlying340
  a63 := Tryz.isAgg340
  z63 := Tryz.sizeOf340
  v63 := Tryz.zeroValue340
  t64 := Tryz.underlying69
  a64 := Tryz.isAgg69
  z64 := Tryz.sizeOf69
  v64 := Tryz.zeroValue69 }
theorem Tryz.evSortsI (m : Nat) : AnyZI.SortsIn Tryz.prog Tryz.sortedI_ren Fence.wide m :=
  ⟨fun blk off cap ss W hH hblk hsz => callsIn_wide.2 (AnyM.slices_Sort_int Tryz.sortI blk off cap ss W hH hblk hsz),
   fun p cap W => callsIn_wide.2 (AnyM.slices_Sort_int_none Tryz.sortI p cap W)⟩
set_option maxHeartbeats 1000000 in
theorem Tryz.evNilI (Bm : Nat) (w : World) (hBm : Bm < w.heap.size) (hm : w.cell? ⟨Bm, 0, none⟩ = some (.map none)) :
    Calls Tryz.prog 316 #[.func (.func 345) #[] #[.pointer (some ⟨Bm, 0, none⟩)]] w fun e w' => e = .returned (.slice none 0 0) ∧ Below w.heap.size w w' := by
  have hseq : SeqGives Fence.wide 2 Tryz.prog 345 #[.pointer (some ⟨Bm, 0, none⟩)] encZ (fun ss : List Int => ss = []) 0 w :=
    AnyZI.keys_gives_nil (ρ := Tryz.keysI_ren) { Tryz.keysI with } Fence.wide _ trivial rfl Bm w hBm hm
  refine ((callsIn_wide (n := 5)).1 (AnyZI.sorted_in Tryz.sortedI Fence.wide 5 trivial trivial trivial trivial rfl (by omega) (Tryz.evSortsI _) (enters_of Tryz.func344 (by kernel_rfl) rfl) 345 #[.pointer (some ⟨Bm, 0, none⟩)] trivial (enters_of Tryz.func345 (by kernel_rfl) rfl) _ _ (by decide) (by decide) _ hseq)).mono ?_
  rintro e w' ⟨v, ss, rfl, hss, _, hnil, hb⟩
  exact ⟨by rw [hnil.2 hss], hb⟩
end Go.Proofs
