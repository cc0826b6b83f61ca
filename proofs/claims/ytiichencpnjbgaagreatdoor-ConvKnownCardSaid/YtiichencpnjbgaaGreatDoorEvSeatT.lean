/-
  The evaluator at this seat, with the further specifications and the readers that recover. (Conditions: none beyond what each theorem asks.)
-/
import Derived.Test.YtiichencpnjbgaaGreatDoorRows
import Derived.Shelf.SlIter.Nil
import Derived.Shelf.SortM.Plain
import Derived.Shelf.SortM.SortNone
import Derived.Ground.GgzProg
import Derived.Ground.SlgmProg
import Derived.KernelRfl
import Derived.Test.YtiichencpnjbgaaGreatDoorEvSeat
import Derived.Test.YtiichencpnjbgaaGreatDoorEvInt
import Derived.Test.YtiichencpnjbgaaGreatDoorEvQ
import Derived.Test.YtiichencpnjbgaaGreatDoorEvBegin
/-! ## EvIter -/
namespace Go.Proofs
open Go.Shelf Go.RowKit Go.Maps Go.Sort

def Tryz.keysT_ren : Go.Shelf.Ren := ⟨fun | 7 => 120 | 10 => 190 | n => n, fun | 23 => 185 | 26 => 9 | 3 => 135 | 28 => 200 | 0 => 0 | 27 => 199 | 33 => 140 | 4 => 4 | n => n, fun | n => n⟩
theorem Tryz.keysT : Go.Proofs.SlLaysZ.n7 Tryz.prog Tryz.keysT_ren := {
  mixed := by kernel_rfl
  f7 := ⟨Tryz.f120.name, by decide, Tryz.func120.trans (congrArg some (by kernel_rfl))⟩
  f10 := ⟨Tryz.f190.name, by decide, Tryz.func190.trans (congrArg some (by kernel_rfl))⟩
  t0 := Tryz.underlying0
  a0 := Tryz.isAgg0
  z0 := Tryz.sizeOf0
  v0 := Tryz.zeroValue0
  t4 := Tryz.underlying4
  a4 := Tryz.isAgg4
  z4 := Tryz.sizeOf4
  v4 := Tryz.zeroValue4
  t23 := Tryz.underlying185
  a23 := Tryz.isAgg185
  z23 := Tryz.sizeOf185
  v23 := Tryz.zeroValue185
  t26 := Tryz.underlying9
  a26 := Tryz.isAgg9
  z26 := Tryz.sizeOf9
  v26 := Tryz.zeroValue9
  t27 := Tryz.underlying199
  a27 := Tryz.isAgg199
  z27 := Tryz.sizeOf199
  v27 := Tryz.zeroValue199
  t28 := Tryz.underlying200
  a28 := Tryz.isAgg200
  z28 := Tryz.sizeOf200
  v28 := Tryz.zeroValue200
  t33 := Tryz.underlying140
  a33 := Tryz.isAgg140
  z33 := Tryz.sizeOf140
  v33 := Tryz.zeroValue140 }
def Tryz.keysV_ren : Go.Shelf.Ren := ⟨fun | 7 => 241 | 10 => 295 | n => n, fun | 23 => 242 | 26 => 9 | 3 => 27 | 28 => 200 | 0 => 0 | 27 => 199 | 33 => 140 | 4 => 4 | n => n, fun | n => n⟩
theorem Tryz.keysV : Go.Proofs.SlLaysZ.n7 Tryz.prog Tryz.keysV_ren := {
  mixed := by kernel_rfl
  f7 := ⟨Tryz.f241.name, by decide, Tryz.func241.trans (congrArg some (by kernel_rfl))⟩
  f10 := ⟨Tryz.f295.name, by decide, Tryz.func295.trans (congrArg some (by kernel_rfl))⟩
  t0 := Tryz.underlying0
  a0 := Tryz.isAgg0
  z0 := Tryz.sizeOf0
  v0 := Tryz.zeroValue0
  t4 := Tryz.underlying4
  a4 := Tryz.isAgg4
  z4 := Tryz.sizeOf4
  v4 := Tryz.zeroValue4
  t23 := Tryz.underlying242
  a23 := Tryz.isAgg242
  z23 := Tryz.sizeOf242
  v23 := Tryz.zeroValue242
  t26 := Tryz.underlying9
  a26 := Tryz.isAgg9
  z26 := Tryz.sizeOf9
  v26 := Tryz.zeroValue9
  t27 := Tryz.underlying199
  a27 := Tryz.isAgg199
  z27 := Tryz.sizeOf199
  v27 := Tryz.zeroValue199
  t28 := Tryz.underlying200
  a28 := Tryz.isAgg200
  z28 := Tryz.sizeOf200
  v28 := Tryz.zeroValue200
  t33 := Tryz.underlying140
  a33 := Tryz.isAgg140
  z33 := Tryz.sizeOf140
  v33 := Tryz.zeroValue140 }
def Tryz.keysU_ren : Go.Shelf.Ren := ⟨fun | 7 => 258 | 10 => 318 | n => n, fun | 23 => 259 | 26 => 9 | 3 => 258 | 28 => 200 | 0 => 0 | 27 => 199 | 33 => 140 | 4 => 4 | n => n, fun | n => n⟩
theorem Tryz.keysU : Go.Proofs.SlLaysZ.n7 Tryz.prog Tryz.keysU_ren := {
  mixed := by kernel_rfl
  f7 := ⟨Tryz.f258.name, by decide, Tryz.func258.trans (congrArg some (by kernel_rfl))⟩
  f10 := ⟨Tryz.f318.name, by decide, Tryz.func318.trans (congrArg some (by kernel_rfl))⟩
  t0 := Tryz.underlying0
  a0 := Tryz.isAgg0
  z0 := Tryz.sizeOf0
  v0 := Tryz.zeroValue0
  t4 := Tryz.underlying4
  a4 := Tryz.isAgg4
  z4 := Tryz.sizeOf4
  v4 := Tryz.zeroValue4
  t23 := Tryz.underlying259
  a23 := Tryz.isAgg259
  z23 := Tryz.sizeOf259
  v23 := Tryz.zeroValue259
  t26 := Tryz.underlying9
  a26 := Tryz.isAgg9
  z26 := Tryz.sizeOf9
  v26 := Tryz.zeroValue9
  t27 := Tryz.underlying199
  a27 := Tryz.isAgg199
  z27 := Tryz.sizeOf199
  v27 := Tryz.zeroValue199
  t28 := Tryz.underlying200
  a28 := Tryz.isAgg200
  z28 := Tryz.sizeOf200
  v28 := Tryz.zeroValue200
  t33 := Tryz.underlying140
  a33 := Tryz.isAgg140
  z33 := Tryz.sizeOf140
  v33 := Tryz.zeroValue140 }
def Tryz.sortedS_ren : Go.Shelf.Ren := ⟨fun | 6 => 119 | 8 => 188 | 9 => 189 | 11 => 248 | 13 => 148 | 12 => 249 | 23 => 216 | 24 => 217 | 14 => 304 | 15 => 305 | 16 => 306 | 17 => 307 | 18 => 308 | 19 => 309 | 20 => 310 | 21 => 311 | 22 => 312 | 25 => 339 | 26 => 266 | 27 => 267 | 28 => 340 | 29 => 341 | 30 => 342 | 31 => 354 | n => n, fun | 26 => 9 | 28 => 200 | 24 => 46 | 0 => 0 | 3 => 3 | 37 => 221 | 48 => 272 | 50 => 274 | 4 => 4 | 40 => 266 | 39 => 265 | 45 => 129 | 5 => 5 | 9 => 9 | 51 => 302 | 55 => 306 | 57 => 340 | 58 => 69 | 33 => 140 | n => n, fun | n => n⟩
theorem Tryz.sortedS : Go.Proofs.SlLaysZ.n6 Tryz.prog Tryz.sortedS_ren := {
  mixed := by kernel_rfl
  f6 := ⟨Tryz.f119.name, by decide, Tryz.func119.trans (congrArg some (by kernel_rfl))⟩
  f8 := ⟨Tryz.f188.name, by decide, Tryz.func188.trans (congrArg some (by kernel_rfl))⟩
  f11 := ⟨Tryz.f248.name, by decide, Tryz.func248.trans (congrArg some (by kernel_rfl))⟩
  t0 := Tryz.underlying0
  a0 := Tryz.isAgg0
  z0 := Tryz.sizeOf0
  v0 := Tryz.zeroValue0
  t24 := Tryz.underlying46
  a24 := Tryz.isAgg46
  z24 := Tryz.sizeOf46
  v24 := Tryz.zeroValue46
  t26 := Tryz.underlying9
  a26 := Tryz.isAgg9
  z26 := Tryz.sizeOf9
  v26 := Tryz.zeroValue9
  t28 := Tryz.underlying200
  a28 := Tryz.isAgg200
  z28 := Tryz.sizeOf200
  v28 := Tryz.zeroValue200
  i26 := by kernel_rfl }
def Tryz.sortS_ren : Go.Shelf.Ren := ⟨fun | 6 => 189 | 8 => 148 | 9 => 249 | 19 => 216 | 20 => 217 | 21 => 304 | 22 => 305 | 23 => 306 | 24 => 307 | 25 => 308 | 26 => 309 | 27 => 310 | 28 => 311 | 29 => 312 | 36 => 339 | 31 => 266 | 32 => 267 | 37 => 340 | 38 => 341 | 39 => 342 | 41 => 354 | n => n, fun | 27 => 46 | 29 => 9 | 3 => 3 | 32 => 221 | 26 => 46 | 0 => 0 | 44 => 272 | 46 => 274 | 4 => 4 | 36 => 266 | 35 => 265 | 41 => 129 | 5 => 5 | 9 => 9 | 53 => 302 | 57 => 306 | 63 => 340 | 64 => 69 | n => n, fun | n => n⟩
theorem Tryz.sortS : Go.Proofs.SlLaysM.n6 Tryz.prog Tryz.sortS_ren := {
  mixed := by kernel_rfl
  f6 := ⟨Tryz.f189.name, by decide, Tryz.func189.trans (congrArg some (by kernel_rfl))⟩
  f8 := Tryz.func148.trans (congrArg some (by kernel_rfl))
  f9 := ⟨Tryz.f249.name, by decide, Tryz.func249.trans (congrArg some (by kernel_rfl))⟩
  f19 := Tryz.func216.trans (congrArg some (by kernel_rfl))
  f20 := Tryz.func217.trans (congrArg some (by kernel_rfl))
  f21 := ⟨Tryz.f304.name, by decide, Tryz.func304.trans (congrArg some (by kernel_rfl))⟩
  f22 := ⟨Tryz.f305.name, by decide, Tryz.func305.trans (congrArg some (by kernel_rfl))⟩
  f23 := ⟨Tryz.f306.name, by decide, Tryz.func306.trans (congrArg some (by kernel_rfl))⟩
  f24 := ⟨Tryz.f307.name, by decide, Tryz.func307.trans (congrArg some (by kernel_rfl))⟩
  f25 := ⟨Tryz.f308.name, by decide, Tryz.func308.trans (congrArg some (by kernel_rfl))⟩
  f26 := ⟨Tryz.f309.name, by decide, Tryz.func309.trans (congrArg some (by kernel_rfl))⟩
  f27 := ⟨Tryz.f310.name, by decide, Tryz.func310.trans (congrArg some (by kernel_rfl))⟩
  f28 := ⟨Tryz.f311.name, by decide, Tryz.func311.trans (congrArg some (by kernel_rfl))⟩
  f29 := ⟨Tryz.f312.name, by decide, Tryz.func312.trans (congrArg some (by kernel_rfl))⟩
  f31 := Tryz.func266.trans (congrArg some (by kernel_rfl))
  f32 := Tryz.func267.trans (congrArg some (by kernel_rfl))
  f36 := ⟨Tryz.f339.name, by decide, Tryz.func339.trans (congrArg some (by kernel_rfl))⟩
  f37 := ⟨Tryz.f340.name, by decide, Tryz.func340.trans (congrArg some (by kernel_rfl))⟩
  f38 := ⟨Tryz.f341.name, by decide, Tryz.func341.trans (congrArg some (by kernel_rfl))⟩
  f39 := ⟨Tryz.f342.name, by decide, Tryz.func342.trans (congrArg some (by kernel_rfl))⟩
  f41 := ⟨Tryz.f354.name, by decide, Tryz.func354.trans (congrArg some (by kernel_rfl))⟩
  t0 := Tryz.underlying0
  a0 := Tryz.isAgg0
  z0 := Tryz.sizeOf0
  v0 := Tryz.zeroValue0
  t3 := Tryz.underlying3
  a3 := Tryz.isAgg3
  z3 := Tryz.sizeOf3
  v3 := Tryz.zeroValue3
  t4 := Tryz.underlying4
  a4 := Tryz.isAgg4
  z4 := Tryz.sizeOf4
  v4 := Tryz.zeroValue4
  t5 := Tryz.underlying5
  a5 := Tryz.isAgg5
  z5 := Tryz.sizeOf5
  v5 := Tryz.zeroValue5
  t9 := Tryz.underlying9
  a9 := Tryz.isAgg9
  z9 := Tryz.sizeOf9
  v9 := Tryz.zeroValue9
  t26 := Tryz.underlying46
  a26 := Tryz.isAgg46
  z26 := Tryz.sizeOf46
  v26 := Tryz.zeroValue46
  t27 := Tryz.underlying46
  a27 := Tryz.isAgg46
  z27 := Tryz.sizeOf46
  v27 := Tryz.zeroValue46
  t29 := Tryz.underlying9
  a29 := Tryz.isAgg9
  z29 := Tryz.sizeOf9
  v29 := Tryz.zeroValue9
  t32 := Tryz.underlying221
  a32 := Tryz.isAgg221
  z32 := Tryz.sizeOf221
  v32 := Tryz.zeroValue221
  t35 := Tryz.underlying265
  a35 := Tryz.isAgg265
  z35 := Tryz.sizeOf265
  v35 := Tryz.zeroValue265
  t36 := Tryz.underlying266
  a36 := Tryz.isAgg266
  z36 := Tryz.sizeOf266
  v36 := Tryz.zeroValue266
  t41 := Tryz.underlying129
  a41 := Tryz.isAgg129
  z41 := Tryz.sizeOf129
  v41 := Tryz.zeroValue129
  t44 := Tryz.underlying272
  a44 := Tryz.isAgg272
  z44 := Tryz.sizeOf272
  v44 := Tryz.zeroValue272
  t46 := Tryz.underlying274
  a46 := Tryz.isAgg274
  z46 := Tryz.sizeOf274
  v46 := Tryz.zeroValue274
  t53 := Tryz.underlying302
  a53 := Tryz.isAgg302
  z53 := Tryz.sizeOf302
  v53 := Tryz.zeroValue302
  t57 := Tryz.underlying306
  a57 := Tryz.isAgg306
  z57 := Tryz.sizeOf306
  v57 := Tryz.zeroValue306
  t63 := Tryz.underlying340
  a63 := Tryz.isAgg340
  z63 := Tryz.sizeOf340
  v63 := Tryz.zeroValue340
  t64 := Tryz.underlying69
  a64 := Tryz.isAgg69
  z64 := Tryz.sizeOf69
  v64 := Tryz.zeroValue69 }
theorem Tryz.evSorts (m : Nat) : AnyZ.SortsIn Tryz.prog Tryz.sortedS_ren Fence.wide m :=
  ⟨fun blk off cap ss W hH hblk hsz => callsIn_wide.2 (AnyM.slices_Sort_string Tryz.sortS blk off cap ss W hH hblk hsz),
   fun p cap W => callsIn_wide.2 (AnyM.slices_Sort_string_none Tryz.sortS p cap W)⟩

set_option maxHeartbeats 1000000 in
/-- slices.Sorted at an iterator over a map's keys. -/
theorem Tryz.evSortedT {H : Type} {R : Value → Option (DataW H × List MemPlace)} (b nn Bm : Nat) (D0 : DataW H) (w : World) (hBm : Bm < w.heap.size) (hm : w.cell? ⟨Bm, 0, none⟩ = some (.map (some b))) (hown : w.ownsMap Tryz.prog 9 R b nn D0)
    (hmax : Maps.size D0 ≤ maxLen) (hbytes : Maps.size D0 * 16 ≤ 140737488355328) :
    Calls Tryz.prog 119 #[.func (.func 190) #[] #[.pointer (some ⟨Bm, 0, none⟩)]] w fun e w' => ∃ (v : Value) (ss : List (List UInt8)), e = .returned v ∧ ss.Perm (strKeys D0) ∧
      w'.ownsRow w.heap.size 9 1 v ss.length ((ss.mergeSort leB).map encStr) ∧ (v = .slice none 0 0 ↔ ss = []) ∧ Below w.heap.size w w' := by
  refine (callsIn_wide (n := 5)).1 ?_
  have hseq : SeqGives Fence.wide 2 Tryz.prog 190 #[.pointer (some ⟨Bm, 0, none⟩)] encStr (fun ss => ss.Perm (strKeys D0)) (Maps.size D0) w :=
    AnyZ.keys_gives (ρ := Tryz.keysT_ren) { Tryz.keysT with } Fence.wide _ trivial rfl (by omega) Bm b nn D0 _ hBm hm hown
  exact AnyZ.sorted_in Tryz.sortedS Fence.wide 5 trivial trivial trivial trivial rfl (by omega) (Tryz.evSorts _) (enters_of Tryz.func189 (by kernel_rfl) rfl) 190 #[.pointer (some ⟨Bm, 0, none⟩)] trivial (enters_of Tryz.func190 (by kernel_rfl) rfl) _ _ hmax hbytes _ hseq
theorem Tryz.evNilT (Bm : Nat) (w : World) (hBm : Bm < w.heap.size) (hm : w.cell? ⟨Bm, 0, none⟩ = some (.map none)) :
    Calls Tryz.prog 119 #[.func (.func 190) #[] #[.pointer (some ⟨Bm, 0, none⟩)]] w fun e w' => e = .returned (.slice none 0 0) ∧ Below w.heap.size w w' := by
  have hseq : SeqGives Fence.wide 2 Tryz.prog 190 #[.pointer (some ⟨Bm, 0, none⟩)] encStr (fun ss : List (List UInt8) => ss = []) 0 w :=
    AnyZ.keys_gives_nil (ρ := Tryz.keysT_ren) { Tryz.keysT with } Fence.wide _ trivial rfl Bm w hBm hm
  refine ((callsIn_wide (n := 5)).1 (AnyZ.sorted_in Tryz.sortedS Fence.wide 5 trivial trivial trivial trivial rfl (by omega) (Tryz.evSorts _) (enters_of Tryz.func189 (by kernel_rfl) rfl) 190 #[.pointer (some ⟨Bm, 0, none⟩)] trivial (enters_of Tryz.func190 (by kernel_rfl) rfl) _ _ (by decide) (by decide) _ hseq)).mono ?_
  rintro e w' ⟨v, ss, rfl, hss, _, hnil, hb⟩
  exact ⟨by rw [hnil.2 hss], hb⟩
set_option maxHeartbeats 1000000 in
/-- slices.Sorted at an iterator over a map's keys. -/
theorem Tryz.evSortedV {H : Type} {R : Value → Option (DataW H × List MemPlace)} (b nn Bm : Nat) (D0 : DataW H) (w : World) (hBm : Bm < w.heap.size) (hm : w.cell? ⟨Bm, 0, none⟩ = some (.map (some b))) (hown : w.ownsMap Tryz.prog 9 R b nn D0)
    (hmax : Maps.size D0 ≤ maxLen) (hbytes : Maps.size D0 * 16 ≤ 140737488355328) :
    Calls Tryz.prog 119 #[.func (.func 295) #[] #[.pointer (some ⟨Bm, 0, none⟩)]] w fun e w' => ∃ (v : Value) (ss : List (List UInt8)), e = .returned v ∧ ss.Perm (strKeys D0) ∧
      w'.ownsRow w.heap.size 9 1 v ss.length ((ss.mergeSort leB).map encStr) ∧ (v = .slice none 0 0 ↔ ss = []) ∧ Below w.heap.size w w' := by
  refine (callsIn_wide (n := 5)).1 ?_
  have hseq : SeqGives Fence.wide 2 Tryz.prog 295 #[.pointer (some ⟨Bm, 0, none⟩)] encStr (fun ss => ss.Perm (strKeys D0)) (Maps.size D0) w :=
    AnyZ.keys_gives (ρ := Tryz.keysV_ren) { Tryz.keysV with } Fence.wide _ trivial rfl (by omega) Bm b nn D0 _ hBm hm hown
  exact AnyZ.sorted_in Tryz.sortedS Fence.wide 5 trivial trivial trivial trivial rfl (by omega) (Tryz.evSorts _) (enters_of Tryz.func189 (by kernel_rfl) rfl) 295 #[.pointer (some ⟨Bm, 0, none⟩)] trivial (enters_of Tryz.func295 (by kernel_rfl) rfl) _ _ hmax hbytes _ hseq
theorem Tryz.evNilV (Bm : Nat) (w : World) (hBm : Bm < w.heap.size) (hm : w.cell? ⟨Bm, 0, none⟩ = some (.map none)) :
    Calls Tryz.prog 119 #[.func (.func 295) #[] #[.pointer (some ⟨Bm, 0, none⟩)]] w fun e w' => e = .returned (.slice none 0 0) ∧ Below w.heap.size w w' := by
  have hseq : SeqGives Fence.wide 2 Tryz.prog 295 #[.pointer (some ⟨Bm, 0, none⟩)] encStr (fun ss : List (List UInt8) => ss = []) 0 w :=
    AnyZ.keys_gives_nil (ρ := Tryz.keysV_ren) { Tryz.keysV with } Fence.wide _ trivial rfl Bm w hBm hm
  refine ((callsIn_wide (n := 5)).1 (AnyZ.sorted_in Tryz.sortedS Fence.wide 5 trivial trivial trivial trivial rfl (by omega) (Tryz.evSorts _) (enters_of Tryz.func189 (by kernel_rfl) rfl) 295 #[.pointer (some ⟨Bm, 0, none⟩)] trivial (enters_of Tryz.func295 (by kernel_rfl) rfl) _ _ (by decide) (by decide) _ hseq)).mono ?_
  rintro e w' ⟨v, ss, rfl, hss, _, hnil, hb⟩
  exact ⟨by rw [hnil.2 hss], hb⟩
set_option maxHeartbeats 1000000 in
/-- slices.Sorted at an iterator over a map's keys. -/
theorem Tryz.evSortedU {H : Type} {R : Value → Option (DataW H × List MemPlace)} (b nn Bm : Nat) (D0 : DataW H) (w : World) (hBm : Bm < w.heap.size) (hm : w.cell? ⟨Bm, 0, none⟩ = some (.map (some b))) (hown : w.ownsMap Tryz.prog 9 R b nn D0)
    (hmax : Maps.size D0 ≤ maxLen) (hbytes : Maps.size D0 * 16 ≤ 140737488355328) :
    Calls Tryz.prog 119 #[.func (.func 318) #[] #[.pointer (some ⟨Bm, 0, none⟩)]] w fun e w' => ∃ (v : Value) (ss : List (List UInt8)), e = .returned v ∧ ss.Perm (strKeys D0) ∧
      w'.ownsRow w.heap.size 9 1 v ss.length ((ss.mergeSort leB).map encStr) ∧ (v = .slice none 0 0 ↔ ss = []) ∧ Below w.heap.size w w' := by
  refine (callsIn_wide (n := 5)).1 ?_
  have hseq : SeqGives Fence.wide 2 Tryz.prog 318 #[.pointer (some ⟨Bm, 0, none⟩)] encStr (fun ss => ss.Perm (strKeys D0)) (Maps.size D0) w :=
    AnyZ.keys_gives (ρ := Tryz.keysU_ren) { Tryz.keysU with } Fence.wide _ trivial rfl (by omega) Bm b nn D0 _ hBm hm hown
  exact AnyZ.sorted_in Tryz.sortedS Fence.wide 5 trivial trivial trivial trivial rfl (by omega) (Tryz.evSorts _) (enters_of Tryz.func189 (by kernel_rfl) rfl) 318 #[.pointer (some ⟨Bm, 0, none⟩)] trivial (enters_of Tryz.func318 (by kernel_rfl) rfl) _ _ hmax hbytes _ hseq
theorem Tryz.evNilU (Bm : Nat) (w : World) (hBm : Bm < w.heap.size) (hm : w.cell? ⟨Bm, 0, none⟩ = some (.map none)) :
    Calls Tryz.prog 119 #[.func (.func 318) #[] #[.pointer (some ⟨Bm, 0, none⟩)]] w fun e w' => e = .returned (.slice none 0 0) ∧ Below w.heap.size w w' := by
  have hseq : SeqGives Fence.wide 2 Tryz.prog 318 #[.pointer (some ⟨Bm, 0, none⟩)] encStr (fun ss : List (List UInt8) => ss = []) 0 w :=
    AnyZ.keys_gives_nil (ρ := Tryz.keysU_ren) { Tryz.keysU with } Fence.wide _ trivial rfl Bm w hBm hm
  refine ((callsIn_wide (n := 5)).1 (AnyZ.sorted_in Tryz.sortedS Fence.wide 5 trivial trivial trivial trivial rfl (by omega) (Tryz.evSorts _) (enters_of Tryz.func189 (by kernel_rfl) rfl) 318 #[.pointer (some ⟨Bm, 0, none⟩)] trivial (enters_of Tryz.func318 (by kernel_rfl) rfl) _ _ (by decide) (by decide) _ hseq)).mono ?_
  rintro e w' ⟨v, ss, rfl, hss, _, hnil, hb⟩
  exact ⟨by rw [hnil.2 hss], hb⟩
end Go.Proofs

/-! ## EvSeatH -/
namespace Go.Proofs.YtiichencpnjbgaaGreatDoor
namespace Ev
open Go Go.Shelf
noncomputable section

def sortedF : List AVal → AMem → Out AVal := specOr (specSorted 190 9) (specOr (specSorted 295 9) (specSorted 318 9))
def specsH (f : Nat) : Option (List AVal → AMem → Out AVal) :=
  match f with
  | 109 => some specPrefix
  | 119 => some sortedF
  | 316 => some (specSortedNil 345)
  | f => specs f
def seatH : Tab := tab specsH globs

theorem prefix_ok : CallOk seatH Tryz.prog 109 specPrefix :=
  specPrefix_ok (enters_of Tryz.func109 (by kernel_rfl) rfl) fun s p w => Any.strings_HasPrefix Tryz.evLays99 s p w
theorem sortedT_ok : CallOk seatH Tryz.prog 119 (specSorted 190 9) :=
  specSorted_ok (enters_of Tryz.func119 (by kernel_rfl) rfl) Tryz.underlying9 (fun b nn Bm D0 w h1 h2 h3 h4 h5 => Tryz.evSortedT b nn Bm D0 w h1 h2 h3 h4 h5) fun Bm w h1 h2 => Tryz.evNilT Bm w h1 h2
theorem sortedV_ok : CallOk seatH Tryz.prog 119 (specSorted 295 9) :=
  specSorted_ok (enters_of Tryz.func119 (by kernel_rfl) rfl) Tryz.underlying9 (fun b nn Bm D0 w h1 h2 h3 h4 h5 => Tryz.evSortedV b nn Bm D0 w h1 h2 h3 h4 h5) fun Bm w h1 h2 => Tryz.evNilV Bm w h1 h2
theorem sortedU_ok : CallOk seatH Tryz.prog 119 (specSorted 318 9) :=
  specSorted_ok (enters_of Tryz.func119 (by kernel_rfl) rfl) Tryz.underlying9 (fun b nn Bm D0 w h1 h2 h3 h4 h5 => Tryz.evSortedU b nn Bm D0 w h1 h2 h3 h4 h5) fun Bm w h1 h2 => Tryz.evNilU Bm w h1 h2
theorem sortedInt_ok : CallOk seatH Tryz.prog 316 (specSortedNil 345) := specSortedNil_ok (enters_of Tryz.func316 (by kernel_rfl) rfl) fun Bm w h1 h2 => Tryz.evNilI Bm w h1 h2
theorem sorted_ok : CallOk seatH Tryz.prog 119 sortedF := specOr_ok sortedT_ok (specOr_ok sortedV_ok sortedU_ok)

theorem specsH_ok : ∀ f F, seatH.spec f = some F → CallOk seatH Tryz.prog f F := by
  intro f F h
  have h : specsH f = some F := h
  unfold specsH at h
  split at h
  · cases h; exact prefix_ok
  · cases h; exact sorted_ok
  · cases h; exact sortedInt_ok
  · exact specs_ok f F h
theorem soundXH (k : Nat) (f : FuncId) : CallOk seatH Tryz.prog f (xFn seatH k f) := xFn_sound (tab_ok specsH globs) mixed specsH_ok k f

/-- The readers that recover. -/
def jwholeF : List AVal → AMem → Out AVal := evDef seatH (xFn seatH 1000) 3000 Tryz.f23
def twholeF : List AVal → AMem → Out AVal := evDef seatH (xFn seatH 1000) 3000 Tryz.f25
def cwholeF : List AVal → AMem → Out AVal := evDef seatH (xFn seatH 1000) 3000 Tryz.f66
theorem jwhole_ok : CallOk seatH Tryz.prog 23 jwholeF :=
  evDef_ok (tab_ok specsH globs) (soundXH 1000) (fun _ n => region_ok (tab_ok specsH globs) mixed (soundXH 1000) n) rfl
theorem twhole_ok : CallOk seatH Tryz.prog 25 twholeF :=
  evDef_ok (tab_ok specsH globs) (soundXH 1000) (fun _ n => region_ok (tab_ok specsH globs) mixed (soundXH 1000) n) rfl
theorem cwhole_ok : CallOk seatH Tryz.prog 66 cwholeF :=
  evDef_ok (tab_ok specsH globs) (soundXH 1000) (fun _ n => region_ok (tab_ok specsH globs) mixed (soundXH 1000) n) rfl

def specsT (f : Nat) : Option (List AVal → AMem → Out AVal) :=
  match f with
  | 23 => some jwholeF
  | 25 => some twholeF
  | 66 => some cwholeF
  | f => specsH f
def seatT : Tab := tab specsT globs
theorem specsT_ok : ∀ f F, seatT.spec f = some F → CallOk seatT Tryz.prog f F := by
  intro f F h
  have h : specsT f = some F := h
  unfold specsT at h
  split at h
  · cases h; exact jwhole_ok
  · cases h; exact twhole_ok
  · cases h; exact cwhole_ok
  · exact specsH_ok f F h
/-- THE EVALUATOR AT THIS SEAT, the readers included. -/
theorem soundXT (k : Nat) (f : FuncId) : CallOk seatT Tryz.prog f (xFn seatT k f) := xFn_sound (tab_ok specsT globs) mixed specsT_ok k f
end
end Ev
end Go.Proofs.YtiichencpnjbgaaGreatDoor
