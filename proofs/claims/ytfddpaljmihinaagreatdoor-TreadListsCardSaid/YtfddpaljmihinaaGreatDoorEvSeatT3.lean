/-
  The evaluator at this seat, with the further specifications, tables of runs, and tread's reader. (Conditions: none beyond what each theorem asks.)
-/
import Derived.Test.YtfddpaljmihinaaGreatDoorRows
import Derived.Shelf.SlIter.Nil
import Derived.Shelf.SortM.Plain
import Derived.Shelf.SortM.SortNone
import Derived.Ground.GgzProg
import Derived.Ground.SlgmProg
import Derived.KernelRfl
import Derived.Test.YtfddpaljmihinaaGreatDoorEvSeat
import Derived.Test.YtfddpaljmihinaaGreatDoorEvD
import Derived.Test.YtfddpaljmihinaaGreatDoorEvQ
import Derived.Test.YtfddpaljmihinaaGreatDoorEvSkip3
import Derived.Test.YtfddpaljmihinaaGreatDoorEvBegin
import Derived.Test.YtfddpaljmihinaaGreatDoorEvC
/-! ## EvIter -/
namespace Go.Proofs
open Go.Shelf Go.RowKit Go.Maps Go.Sort

def Tryz.keys142_ren : Go.Shelf.Ren := ⟨fun | 7 => 142 | 10 => 183 | n => n, fun | 23 => 148 | 26 => 9 | 3 => 106 | 28 => 162 | 0 => 0 | 27 => 161 | 33 => 33 | 4 => 4 | n => n, fun | n => n⟩
theorem Tryz.keys142 : Go.Proofs.SlLaysZ.n7 Tryz.prog Tryz.keys142_ren := {
  mixed := by kernel_rfl
  f7 := ⟨Tryz.f142.name, by decide, Tryz.func142.trans (congrArg some (by kernel_rfl))⟩
  f10 := ⟨Tryz.f183.name, by decide, Tryz.func183.trans (congrArg some (by kernel_rfl))⟩
  t0 := Tryz.underlying0
  a0 := Tryz.isAgg0
  z0 := Tryz.sizeOf0
  v0 := Tryz.zeroValue0
  t4 := Tryz.underlying4
  a4 := Tryz.isAgg4
  z4 := Tryz.sizeOf4
  v4 := Tryz.zeroValue4
  t23 := Tryz.underlying148
  a23 := Tryz.isAgg148
  z23 := Tryz.sizeOf148
  v23 := Tryz.zeroValue148
  t26 := Tryz.underlying9
  a26 := Tryz.isAgg9
  z26 := Tryz.sizeOf9
  v26 := Tryz.zeroValue9
  t27 := Tryz.underlying161
  a27 := Tryz.isAgg161
  z27 := Tryz.sizeOf161
  v27 := Tryz.zeroValue161
  t28 := Tryz.underlying162
  a28 := Tryz.isAgg162
  z28 := Tryz.sizeOf162
  v28 := Tryz.zeroValue162
  t33 := Tryz.underlying33
  a33 := Tryz.isAgg33
  z33 := Tryz.sizeOf33
  v33 := Tryz.zeroValue33 }
def Tryz.sorted141_ren : Go.Shelf.Ren := ⟨fun | 6 => 141 | 8 => 181 | 9 => 182 | 11 => 198 | 13 => 200 | 12 => 199 | 23 => 211 | 24 => 212 | 14 => 202 | 15 => 203 | 16 => 204 | 17 => 205 | 18 => 206 | 19 => 207 | 20 => 208 | 21 => 209 | 22 => 210 | 25 => 217 | 26 => 218 | 27 => 219 | 28 => 220 | 29 => 221 | 30 => 222 | 31 => 227 | n => n, fun | 26 => 9 | 28 => 162 | 24 => 41 | 0 => 0 | 3 => 3 | 37 => 121 | 48 => 177 | 50 => 118 | 4 => 4 | 40 => 206 | 39 => 205 | 45 => 100 | 5 => 5 | 9 => 9 | 51 => 217 | 55 => 221 | 57 => 226 | 58 => 78 | 33 => 33 | n => n, fun | n => n⟩
theorem Tryz.sorted141 : Go.Proofs.SlLaysZ.n6 Tryz.prog Tryz.sorted141_ren := {
  mixed := by kernel_rfl
  f6 := ⟨Tryz.f141.name, by decide, Tryz.func141.trans (congrArg some (by kernel_rfl))⟩
  f8 := ⟨Tryz.f181.name, by decide, Tryz.func181.trans (congrArg some (by kernel_rfl))⟩
  f11 := ⟨Tryz.f198.name, by decide, Tryz.func198.trans (congrArg some (by kernel_rfl))⟩
  t0 := Tryz.underlying0
  a0 := Tryz.isAgg0
  z0 := Tryz.sizeOf0
  v0 := Tryz.zeroValue0
  t24 := Tryz.underlying41
  a24 := Tryz.isAgg41
  z24 := Tryz.sizeOf41
  v24 := Tryz.zeroValue41
  t26 := Tryz.underlying9
  a26 := Tryz.isAgg9
  z26 := Tryz.sizeOf9
  v26 := Tryz.zeroValue9
  t28 := Tryz.underlying162
  a28 := Tryz.isAgg162
  z28 := Tryz.sizeOf162
  v28 := Tryz.zeroValue162
  i26 := by kernel_rfl }
def Tryz.sort182_ren : Go.Shelf.Ren := ⟨fun | 6 => 182 | 8 => 200 | 9 => 199 | 19 => 211 | 20 => 212 | 21 => 202 | 22 => 203 | 23 => 204 | 24 => 205 | 25 => 206 | 26 => 207 | 27 => 208 | 28 => 209 | 29 => 210 | 36 => 217 | 31 => 218 | 32 => 219 | 37 => 220 | 38 => 221 | 39 => 222 | 41 => 227 | n => n, fun | 27 => 41 | 29 => 9 | 3 => 3 | 32 => 121 | 26 => 41 | 0 => 0 | 44 => 177 | 46 => 118 | 4 => 4 | 36 => 206 | 35 => 205 | 41 => 100 | 5 => 5 | 9 => 9 | 53 => 217 | 57 => 221 | 63 => 226 | 64 => 78 | n => n, fun | n => n⟩
theorem Tryz.sort182 : Go.Proofs.SlLaysM.n6 Tryz.prog Tryz.sort182_ren := {
  mixed := by kernel_rfl
  f6 := ⟨Tryz.f182.name, by decide, Tryz.func182.trans (congrArg some (by kernel_rfl))⟩
  f8 := Tryz.func200.trans (congrArg some (by kernel_rfl))
  f9 := ⟨Tryz.f199.name, by decide, Tryz.func199.trans (congrArg some (by kernel_rfl))⟩
  f19 := Tryz.func211.trans (congrArg some (by kernel_rfl))
  f20 := Tryz.func212.trans (congrArg some (by kernel_rfl))
  f21 := ⟨Tryz.f202.name, by decide, Tryz.func202.trans (congrArg some (by kernel_rfl))⟩
  f22 := ⟨Tryz.f203.name, by decide, Tryz.func203.trans (congrArg some (by kernel_rfl))⟩
  f23 := ⟨Tryz.f204.name, by decide, Tryz.func204.trans (congrArg some (by kernel_rfl))⟩
  f24 := ⟨Tryz.f205.name, by decide, Tryz.func205.trans (congrArg some (by kernel_rfl))⟩
  f25 := ⟨Tryz.f206.name, by decide, Tryz.func206.trans (congrArg some (by kernel_rfl))⟩
  f26 := ⟨Tryz.f207.name, by decide, Tryz.func207.trans (congrArg some (by kernel_rfl))⟩
  f27 := ⟨Tryz.f208.name, by decide, Tryz.func208.trans (congrArg some (by kernel_rfl))⟩
  f28 := ⟨Tryz.f209.name, by decide, Tryz.func209.trans (congrArg some (by kernel_rfl))⟩
  f29 := ⟨Tryz.f210.name, by decide, Tryz.func210.trans (congrArg some (by kernel_rfl))⟩
  f31 := Tryz.func218.trans (congrArg some (by kernel_rfl))
  f32 := Tryz.func219.trans (congrArg some (by kernel_rfl))
  f36 := ⟨Tryz.f217.name, by decide, Tryz.func217.trans (congrArg some (by kernel_rfl))⟩
  f37 := ⟨Tryz.f220.name, by decide, Tryz.func220.trans (congrArg some (by kernel_rfl))⟩
  f38 := ⟨Tryz.f221.name, by decide, Tryz.func221.trans (congrArg some (by kernel_rfl))⟩
  f39 := ⟨Tryz.f222.name, by decide, Tryz.func222.trans (congrArg some (by kernel_rfl))⟩
  f41 := ⟨Tryz.f227.name, by decide, Tryz.func227.trans (congrArg some (by kernel_rfl))⟩
  t0 := Tryz.underlying0
  a0 := Tryz.isAgg0
  z0 := Tryz.sizeOf0
  v0 := Tryz.zeroValue0
  t3 := Tryz.underlying3
  a3 := Tryz.isAgg3
  z3 := Tryz.sizeOf3
  v3 := Tryz.zeroValue3
  t4 := Tryz.underlying4
  a4 := Tryz.isAgg4
  z4 := Tryz.sizeOf4
  v4 := Tryz.zeroValue4
  t5 := Tryz.underlying5
  a5 := Tryz.isAgg5
  z5 := Tryz.sizeOf5
  v5 := Tryz.zeroValue5
  t9 := Tryz.underlying9
  a9 := Tryz.isAgg9
  z9 := Tryz.sizeOf9
  v9 := Tryz.zeroValue9
  t26 := Tryz.underlying41
  a26 := Tryz.isAgg41
  z26 := Tryz.sizeOf41
  v26 := Tryz.zeroValue41
  t27 := Tryz.underlying41
  a27 := Tryz.isAgg41
  z27 := Tryz.sizeOf41
  v27 := Tryz.zeroValue41
  t29 := Tryz.underlying9
  a29 := Tryz.isAgg9
  z29 := Tryz.sizeOf9
  v29 := Tryz.zeroValue9
  t32 := Tryz.underlying121
  a32 := Tryz.isAgg121
  z32 := Tryz.sizeOf121
  v32 := Tryz.zeroValue121
  t35 := Tryz.underlying205
  a35 := Tryz.isAgg205
  z35 := Tryz.sizeOf205
  v35 := Tryz.zeroValue205
  t36 := Tryz.underlying206
  a36 := Tryz.isAgg206
  z36 := Tryz.sizeOf206
  v36 := Tryz.zeroValue206
  t41 := Tryz.underlying100
  a41 := Tryz.isAgg100
  z41 := Tryz.sizeOf100
  v41 := Tryz.zeroValue100
  t44 := Tryz.underlying177
  a44 := Tryz.isAgg177
  z44 := Tryz.sizeOf177
  v44 := Tryz.zeroValue177
  t46 := Tryz.underlying118
  a46 := Tryz.isAgg118
  z46 := Tryz.sizeOf118
  v46 := Tryz.zeroValue118
  t53 := Tryz.underlying217
  a53 := Tryz.isAgg217
  z53 := Tryz.sizeOf217
  v53 := Tryz.zeroValue217
  t57 := Tryz.underlying221
  a57 := Tryz.isAgg221
  z57 := Tryz.sizeOf221
  v57 := Tryz.zeroValue221
  t63 := Tryz.underlying226
  a63 := Tryz.isAgg226
  z63 := Tryz.sizeOf226
  v63 := Tryz.zeroValue226
  t64 := Tryz.underlying78
  a64 := Tryz.isAgg78
  z64 := Tryz.sizeOf78
  v64 := Tryz.zeroValue78 }
theorem Tryz.evSorts (m : Nat) : AnyZ.SortsIn Tryz.prog Tryz.sorted141_ren Fence.wide m :=
  ⟨fun blk off cap ss W hH hblk hsz => callsIn_wide.2 (AnyM.slices_Sort_string Tryz.sort182 blk off cap ss W hH hblk hsz),
   fun p cap W => callsIn_wide.2 (AnyM.slices_Sort_string_none Tryz.sort182 p cap W)⟩

set_option maxHeartbeats 1000000 in
/-- slices.Sorted at an iterator over a map's keys. -/
theorem Tryz.evSorted {H : Type} {R : Value → Option (DataW H × List MemPlace)} (b nn Bm : Nat) (D0 : DataW H) (w : World) (hBm : Bm < w.heap.size) (hm : w.cell? ⟨Bm, 0, none⟩ = some (.map (some b))) (hown : w.ownsMap Tryz.prog 9 R b nn D0)
    (hmax : Maps.size D0 ≤ maxLen) (hbytes : Maps.size D0 * 16 ≤ 140737488355328) :
    Calls Tryz.prog 141 #[.func (.func 183) #[] #[.pointer (some ⟨Bm, 0, none⟩)]] w fun e w' => ∃ (v : Value) (ss : List (List UInt8)), e = .returned v ∧ ss.Perm (strKeys D0) ∧
      w'.ownsRow w.heap.size 9 1 v ss.length ((ss.mergeSort leB).map encStr) ∧ (v = .slice none 0 0 ↔ ss = []) ∧ Below w.heap.size w w' := by
  refine (callsIn_wide (n := 5)).1 ?_
  have hseq : SeqGives Fence.wide 2 Tryz.prog 183 #[.pointer (some ⟨Bm, 0, none⟩)] encStr (fun ss => ss.Perm (strKeys D0)) (Maps.size D0) w :=
    AnyZ.keys_gives (ρ := Tryz.keys142_ren) { Tryz.keys142 with } Fence.wide _ trivial rfl (by omega) Bm b nn D0 _ hBm hm hown
  exact AnyZ.sorted_in Tryz.sorted141 Fence.wide 5 trivial trivial trivial trivial rfl (by omega) (Tryz.evSorts _) (enters_of Tryz.func182 (by kernel_rfl) rfl) 183 #[.pointer (some ⟨Bm, 0, none⟩)] trivial (enters_of Tryz.func183 (by kernel_rfl) rfl) _ _ hmax hbytes _ hseq
end Go.Proofs

/-! ## EvSeatS -/
namespace Go.Proofs.YtfddpaljmihinaaGreatDoor
namespace Ev
open Go Go.Shelf
noncomputable section

def specsH (f : Nat) : Option (List AVal → AMem → Out AVal) :=
  match f with
  | 31 => some specPrefix
  | 141 => some (specSorted 183 9)
  | f => specs f
def seatH : Tab := tab specsH globs

theorem prefix_ok : CallOk seatH Tryz.prog 31 specPrefix :=
  specPrefix_ok (enters_of Tryz.func31 (by kernel_rfl) rfl) fun s p w => Any.strings_HasPrefix Tryz.evLays99 s p w
theorem sorted_ok : CallOk seatH Tryz.prog 141 (specSorted 183 9) :=
  specSorted_ok (enters_of Tryz.func141 (by kernel_rfl) rfl) Tryz.underlying9 fun b nn Bm D0 w h1 h2 h3 h4 h5 => Tryz.evSorted b nn Bm D0 w h1 h2 h3 h4 h5

theorem specsH_ok : ∀ f F, seatH.spec f = some F → CallOk seatH Tryz.prog f F := by
  intro f F h
  have h : specsH f = some F := h
  unfold specsH at h
  split at h
  · cases h; exact prefix_ok
  · cases h; exact sorted_ok
  · exact specs_ok f F h
theorem soundH (k : Nat) (f : FuncId) : CallOk seatH Tryz.prog f (evFn seatH k f) := evFn_sound (tab_ok specsH globs) mixed specsH_ok k f
theorem soundXH (k : Nat) (f : FuncId) : CallOk seatH Tryz.prog f (xFn seatH k f) := xFn_sound (tab_ok specsH globs) mixed specsH_ok k f
def validF : List AVal → AMem → Out AVal := specValid (xFn seatH 1000 80)
def skipF : List AVal → AMem → Out AVal := specSkip (xFn seatH 1000 30)
theorem valid_ok : CallOk seatH Tryz.prog 80 validF := specValid_ok (soundXH 1000 80) (enters_of Tryz.func80 (by kernel_rfl) rfl)
theorem skip_ok : CallOk seatH Tryz.prog 30 skipF := specSkip_ok (soundXH 1000 30) (enters_of Tryz.func30 (by kernel_rfl) rfl)

def specsS (f : Nat) : Option (List AVal → AMem → Out AVal) :=
  match f with
  | 30 => some skipF
  | 80 => some validF
  | f => specsH f
def seatS : Tab := tab specsS globs
theorem specsS_ok : ∀ f F, seatS.spec f = some F → CallOk seatS Tryz.prog f F := by
  intro f F h
  have h : specsS f = some F := h
  unfold specsS at h
  split at h
  · cases h; exact skip_ok
  · cases h; exact valid_ok
  · exact specsH_ok f F h
theorem soundS (k : Nat) (f : FuncId) : CallOk seatS Tryz.prog f (evFn seatS k f) := evFn_sound (tab_ok specsS globs) mixed specsS_ok k f
theorem soundXS (k : Nat) (f : FuncId) : CallOk seatS Tryz.prog f (xFn seatS k f) := xFn_sound (tab_ok specsS globs) mixed specsS_ok k f
end
end Ev
end Go.Proofs.YtfddpaljmihinaaGreatDoor

/-! ## EvMemo -/
namespace Go.Proofs.YtfddpaljmihinaaGreatDoor
namespace Ev
open Go
noncomputable section

def flatF : Nat → AVal → Bool
  | 0, _ => false
  | n + 1, v => match v with
    | .bool _ => true
    | .int _ _ => true
    | .str _ => true
    | .nptr => true
    | .nslice => true
    | .nmap => true
    | .nfunc => true
    | .niface => true
    | .agg cs => cs.all (flatF n)
    | .tuple cs => cs.all (flatF n)
    | _ => false

theorem flatF_rel {r r' : Ren} : ∀ (n : Nat) {v : AVal} {v' : Value}, flatF n v = true → VRel r v v' → VRel r' v v' := by
  intro n
  induction n with
  | zero => intro v v' h; cases h
  | succ n ih =>
    intro v v' hf h
    cases h with
    | bool b => exact .bool b
    | int k n => exact .int k n
    | str s l h => exact .str s l h
    | nptr => exact .nptr
    | nslice => exact .nslice
    | nmap => exact .nmap
    | nfunc => exact .nfunc
    | niface => exact .niface
    | agg cs cs' hl hh => exact .agg cs cs' hl fun i u u' e1 e2 => ih (List.all_eq_true.1 hf u (List.mem_of_getElem? e1)) (hh i u u' e1 e2)
    | tuple cs cs' hl hh => exact .tuple cs cs' hl fun i u u' e1 e2 => ih (List.all_eq_true.1 hf u (List.mem_of_getElem? e1)) (hh i u u' e1 e2)
    | _ => cases hf

/-- A memory that holds MaxLen and nothing else. -/
def smallMem (z : Int) : AMem := ⟨8, Tree.leaf.put 0 (.cells 3 [.int .i64 z] true 0 false)⟩

def hasMax (m : AMem) : Option Int :=
  match m.get 0 with
  | some (.cells t [.int .i64 z] true 0 false) => match Nat.beq t 3 with
    | true => some z
    | false => none
  | _ => none

theorem hasMax_spec {m : AMem} {z : Int} (h : hasMax m = some z) : m.get 0 = some (.cells 3 [.int .i64 z] true 0 false) := by
  unfold hasMax at h
  split at h
  · rename_i t z' hg
    split at h
    · rename_i ht
      cases h
      rw [Nat.eq_of_beq_eq_true ht] at hg
      exact hg
    · cases h
  · cases h

theorem small_get {z : Int} {b : Nat} {k : ABlk} (h : (smallMem z).get b = some k) : b = 0 ∧ k = .cells 3 [.int .i64 z] true 0 false := by
  simp only [smallMem, AMem.get, Tree.get_put, Tree.get_leaf] at h
  split at h
  · rename_i c; cases h; exact ⟨c.symm, rfl⟩
  · cases h

theorem small_ro {z : Int} : ∀ b k, (smallMem z).get b = some k → k.writable = false := by
  intro b k h
  rw [(small_get h).2]
  rfl

def Ren.low (r : Ren) : Ren := ⟨fun b => if b < 8 then r.at_ b else none⟩

theorem small_rel {r : Ren} {m : AMem} {w : World} {z : Int} (hm : MemRel r m.next m.get w) (h : m.get 0 = some (.cells 3 [.int .i64 z] true 0 false)) : MemRel r.low (smallMem z).next (smallMem z).get w := by
  have low : ∀ b B, r.low.at_ b = some B → b < 8 ∧ r.at_ b = some B := by
    intro b B e
    simp only [Ren.low] at e
    split at e
    · rename_i c; exact ⟨c, e⟩
    · cases e
  refine ⟨fun b B e => (low b B e).1, fun b B e => hm.inw b B (low b B e).2, fun b k e => ?_, fun b1 k1 b2 k2 B1 B2 e1 e2 _ _ _ _ => ?_, fun b B e vs ro frz e1 _ => ?_⟩
  · obtain ⟨rfl, rfl⟩ := small_get e
    obtain ⟨B, hB, c, fr, h1, h2, h3, h4, h5⟩ := hm.blk 0 _ h
    refine ⟨B, by simp [Ren.low, hB], c, fr, h1, h2, h3, ⟨h4.len, fun i v v' a b => ?_⟩, h5⟩
    have := h4.at_ i v v' a b
    cases i with
    | zero => cases a; rw [this.int_inv]; exact .int _ _
    | succ i => simp at a
  · rw [(small_get e1).1, (small_get e2).1]
  · have := (small_get e1).2
    cases this

def rowFor (args : List AVal) : List (List AVal × AVal) → Option AVal
  | [] => none
  | x :: rest => match sameL (sameF 100) args x.1 with
    | true => some x.2
    | false => rowFor args rest

theorem rowFor_mem {args : List AVal} {v : AVal} : ∀ {l : List (List AVal × AVal)}, rowFor args l = some v → (args, v) ∈ l := by
  intro l
  induction l with
  | nil => intro h; cases h
  | cons x rest ih =>
    intro h
    simp only [rowFor] at h
    split at h
    · rename_i hs
      cases h
      rw [sameL_eq (fun a b => sameF_eq 100) hs]
      exact List.mem_cons_self
    · exact List.mem_cons_of_mem _ (ih h)

def runIs (v : AVal) : Out AVal → Bool
  | .ok u _ => match flatF 20 v with
    | true => sameF 100 u v
    | false => false
  | _ => false

theorem runIs_spec {v : AVal} {out : Out AVal} (h : runIs v out = true) : flatF 20 v = true ∧ ∃ m', out = .ok v m' := by
  unfold runIs at h
  split at h
  · rename_i u m'
    split at h
    · rename_i hf
      exact ⟨hf, m', by rw [sameF_eq 100 h]⟩
    · cases h
  · cases h

/-- By the table, else as ever. -/
def memoF (table : List (List AVal × AVal)) (F : List AVal → AMem → Out AVal) (args : List AVal) (m : AMem) : Out AVal :=
  match args.all (flatF 20), rowFor args table, hasMax m with
  | true, some v, some _ => .ok v m
  | _, _, _ => F args m

theorem memo_ok {T : Tab} {P : Program} {f : FuncId} {F : List AVal → AMem → Out AVal} {table : List (List AVal × AVal)} (hglob : ∀ g, T.glob g = true → g < 8) (hF : CallOk T P f F)
    (hrun : ∀ (z : Int) (x : List AVal × AVal), x ∈ table → runIs x.2 (F x.1 (smallMem z)) = true) : CallOk T P f (memoF table F) := by
  intro r w m args args' hg hm ha hgood
  unfold memoF at hgood ⊢
  split at hgood
  · rename_i v z hfa hv hz
    have h0 := hasMax_spec hz
    obtain ⟨hfl, m', hout⟩ := runIs_spec (hrun z _ (rowFor_mem hv))
    have hg8 : GlobOk T r.low := fun g e => by
      obtain ⟨B, h1, h2⟩ := hg g e
      exact ⟨B, by simp only [Ren.low]; rw [if_pos (hglob g e)]; exact h1, h2⟩
    have ha8 : VsRel r.low args args'.toList := ⟨ha.len, fun i u u' e1 e2 => flatF_rel 20 (List.all_eq_true.1 hfa u (List.mem_of_getElem? e1)) (ha.at_ i u u' e1 e2)⟩
    have hc := hF r.low w (smallMem z) args args' hg8 (small_rel hm h0) ha8 (by rw [hout]; trivial)
    rw [hout] at hc
    have conv : ∀ en w', Post r.low (smallMem z) w (.ok v m') en w' → Post r m w (.ok v m) en w' := by
      intro en w' ⟨r', v', e, hv', hst⟩
      exact ⟨r, v', e, flatF_rel 20 hfl hv', Step.below hm (below_of_step hst small_ro)⟩
    rcases hc with ⟨v', w', h1, h2⟩ | ⟨h1, h2⟩
    · exact .inl ⟨v', w', h1, conv _ _ h2⟩
    · exact .inr ⟨h1, h2.mono fun en w' h => conv en w' h⟩
  · exact hF r w m args args' hg hm ha hgood

theorem globs_lt {specs : Nat → Option (List AVal → AMem → Out AVal)} : ∀ g, (tab specs globs).glob g = true → g < 8 := fun _ e => Nat.lt_succ_of_le (Nat.le_of_ble_eq_true e)
end
end Ev
end Go.Proofs.YtfddpaljmihinaaGreatDoor

/-! ## EvWords -/
namespace Go.Proofs.YtfddpaljmihinaaGreatDoor
namespace Ev
open Go
noncomputable section
set_option maxRecDepth 1000000

def bareTab : List (List AVal × AVal) := [([.str [97]], .bool true), ([.str [98]], .bool true), ([.str [99]], .bool true), ([.str [107]], .bool true), ([.str [120]], .bool true), ([.str [121]], .bool true), ([.str [108]], .bool true), ([.str [116]], .bool true), ([.str [48]], .bool true), ([.str [49]], .bool true), ([.str [50]], .bool true), ([.str [51]], .bool true), ([.str [52]], .bool true), ([.str [53]], .bool true), ([.str [54]], .bool true), ([.str [55]], .bool true), ([.str [56]], .bool true), ([.str [57]], .bool true), ([.str [46]], .bool false), ([.str [95]], .bool true), ([.str [45]], .bool true), ([.str [93]], .bool false), ([.str [32]], .bool false), ([.str [61]], .bool false), ([.str [91]], .bool false), ([.str [34]], .bool false), ([.str [123]], .bool false), ([.str [44]], .bool false), ([.str [35]], .bool false), ([.str [10]], .bool false)]
def numTab : List (List AVal × AVal) := [([.str [48]], .tuple [.agg [.int .i64 2, .int .i64 0, .str [], .nslice, .nslice], .int .i64 0]), ([.str [49]], .tuple [.agg [.int .i64 2, .int .i64 1, .str [], .nslice, .nslice], .int .i64 0]), ([.str [50]], .tuple [.agg [.int .i64 2, .int .i64 2, .str [], .nslice, .nslice], .int .i64 0]), ([.str [51]], .tuple [.agg [.int .i64 2, .int .i64 3, .str [], .nslice, .nslice], .int .i64 0]), ([.str [52]], .tuple [.agg [.int .i64 2, .int .i64 4, .str [], .nslice, .nslice], .int .i64 0]), ([.str [53]], .tuple [.agg [.int .i64 2, .int .i64 5, .str [], .nslice, .nslice], .int .i64 0]), ([.str [54]], .tuple [.agg [.int .i64 2, .int .i64 6, .str [], .nslice, .nslice], .int .i64 0]), ([.str [55]], .tuple [.agg [.int .i64 2, .int .i64 7, .str [], .nslice, .nslice], .int .i64 0]), ([.str [56]], .tuple [.agg [.int .i64 2, .int .i64 8, .str [], .nslice, .nslice], .int .i64 0]), ([.str [57]], .tuple [.agg [.int .i64 2, .int .i64 9, .str [], .nslice, .nslice], .int .i64 0]), ([.str [49, 48]], .tuple [.agg [.int .i64 2, .int .i64 10, .str [], .nslice, .nslice], .int .i64 0]), ([.str [49, 49]], .tuple [.agg [.int .i64 2, .int .i64 11, .str [], .nslice, .nslice], .int .i64 0]), ([.str [49, 50]], .tuple [.agg [.int .i64 2, .int .i64 12, .str [], .nslice, .nslice], .int .i64 0]), ([.str [49, 51]], .tuple [.agg [.int .i64 2, .int .i64 13, .str [], .nslice, .nslice], .int .i64 0]), ([.str [49, 52]], .tuple [.agg [.int .i64 2, .int .i64 14, .str [], .nslice, .nslice], .int .i64 0]), ([.str [49, 53]], .tuple [.agg [.int .i64 2, .int .i64 15, .str [], .nslice, .nslice], .int .i64 0]), ([.str [49, 54]], .tuple [.agg [.int .i64 2, .int .i64 16, .str [], .nslice, .nslice], .int .i64 0]), ([.str [49, 55]], .tuple [.agg [.int .i64 2, .int .i64 17, .str [], .nslice, .nslice], .int .i64 0]), ([.str [49, 56]], .tuple [.agg [.int .i64 2, .int .i64 18, .str [], .nslice, .nslice], .int .i64 0]), ([.str [49, 57]], .tuple [.agg [.int .i64 2, .int .i64 19, .str [], .nslice, .nslice], .int .i64 0]), ([.str [50, 48]], .tuple [.agg [.int .i64 2, .int .i64 20, .str [], .nslice, .nslice], .int .i64 0]), ([.str [50, 49]], .tuple [.agg [.int .i64 2, .int .i64 21, .str [], .nslice, .nslice], .int .i64 0]), ([.str [50, 50]], .tuple [.agg [.int .i64 2, .int .i64 22, .str [], .nslice, .nslice], .int .i64 0]), ([.str [50, 51]], .tuple [.agg [.int .i64 2, .int .i64 23, .str [], .nslice, .nslice], .int .i64 0]), ([.str [50, 52]], .tuple [.agg [.int .i64 2, .int .i64 24, .str [], .nslice, .nslice], .int .i64 0]), ([.str [50, 53]], .tuple [.agg [.int .i64 2, .int .i64 25, .str [], .nslice, .nslice], .int .i64 0]), ([.str [50, 54]], .tuple [.agg [.int .i64 2, .int .i64 26, .str [], .nslice, .nslice], .int .i64 0]), ([.str [50, 55]], .tuple [.agg [.int .i64 2, .int .i64 27, .str [], .nslice, .nslice], .int .i64 0]), ([.str [50, 56]], .tuple [.agg [.int .i64 2, .int .i64 28, .str [], .nslice, .nslice], .int .i64 0]), ([.str [50, 57]], .tuple [.agg [.int .i64 2, .int .i64 29, .str [], .nslice, .nslice], .int .i64 0]), ([.str [51, 48]], .tuple [.agg [.int .i64 2, .int .i64 30, .str [], .nslice, .nslice], .int .i64 0])]
def allRuns (F : List AVal → AMem → Out AVal) (z : Int) (l : List (List AVal × AVal)) : Bool := l.all fun x => runIs x.2 (F x.1 (smallMem z))
theorem run_bare (z : Int) : allRuns (xFn seatS 1000 78) z bareTab = true := by kernel_rfl
theorem run_num (z : Int) : allRuns (xFn seatS 1000 15) z numTab = true := by kernel_rfl
def bareF : List AVal → AMem → Out AVal := memoF bareTab (xFn seatS 1000 78)
def numF : List AVal → AMem → Out AVal := memoF numTab (xFn seatS 1000 15)
theorem bare_ok : CallOk seatS Tryz.prog 78 bareF := memo_ok globs_lt (soundXS 1000 78) fun z x hx => List.all_eq_true.1 (run_bare z) x hx
theorem num_ok : CallOk seatS Tryz.prog 15 numF := memo_ok globs_lt (soundXS 1000 15) fun z x hx => List.all_eq_true.1 (run_num z) x hx

def specsP (f : Nat) : Option (List AVal → AMem → Out AVal) :=
  match f with
  | 15 => some numF
  | 78 => some bareF
  | f => specsS f
def seatP : Tab := tab specsP globs
theorem specsP_ok : ∀ f F, seatP.spec f = some F → CallOk seatP Tryz.prog f F := by
  intro f F h
  have h : specsP f = some F := h
  unfold specsP at h
  split at h
  · cases h; exact num_ok
  · cases h; exact bare_ok
  · exact specsS_ok f F h
theorem soundP (k : Nat) (f : FuncId) : CallOk seatP Tryz.prog f (evFn seatP k f) := evFn_sound (tab_ok specsP globs) mixed specsP_ok k f
theorem soundXP (k : Nat) (f : FuncId) : CallOk seatP Tryz.prog f (xFn seatP k f) := xFn_sound (tab_ok specsP globs) mixed specsP_ok k f
end
end Ev
end Go.Proofs.YtfddpaljmihinaaGreatDoor

/-! ## EvSeatT -/
namespace Go.Proofs.YtfddpaljmihinaaGreatDoor
namespace Ev
open Go
noncomputable section

/-- tread.whole. -/
def wholeF : List AVal → AMem → Out AVal := evDef seatP (xFn seatP 1000) 3000 Tryz.f51
theorem whole_ok : CallOk seatP Tryz.prog 51 wholeF :=
  evDef_ok (tab_ok specsP globs) (soundXP 1000) (fun _ n => region_ok (tab_ok specsP globs) mixed (soundXP 1000) n) rfl

def specsT (f : Nat) : Option (List AVal → AMem → Out AVal) :=
  match f with
  | 51 => some wholeF
  | f => specsP f
def seatT : Tab := tab specsT globs
theorem specsT_ok : ∀ f F, seatT.spec f = some F → CallOk seatT Tryz.prog f F := by
  intro f F h
  have h : specsT f = some F := h
  unfold specsT at h
  split at h
  · cases h; exact whole_ok
  · exact specsP_ok f F h
/-- THE EVALUATOR AT THIS SEAT, tread's reader included. -/
theorem soundT (k : Nat) (f : FuncId) : CallOk seatT Tryz.prog f (evFn seatT k f) := evFn_sound (tab_ok specsT globs) mixed specsT_ok k f
theorem soundXT (k : Nat) (f : FuncId) : CallOk seatT Tryz.prog f (xFn seatT k f) := xFn_sound (tab_ok specsT globs) mixed specsT_ok k f
end
end Ev
end Go.Proofs.YtfddpaljmihinaaGreatDoor
