/-
  Calls from the empty memory, over a table without variables: they hold in every world. (Conditions: none.)
-/
import Derived.Test.YtfddpaljmihinaaGreatDoorEvTrim
import Derived.Test.YtfddpaljmihinaaGreatDoorEvMemo
namespace Go.Proofs.YtfddpaljmihinaaGreatDoor
namespace Cut
open Go Go.RowKit

def allAscii (s : ByteArray) : Bool := s.data.toList.all fun b => decide (b.toNat < 128)

theorem allAscii_spec {s : ByteArray} (h : allAscii s = true) : ∀ (i : Nat) (h : i < s.size), (s[i]'h).toNat < 128 := by
  intro i hi
  have h2 := List.all_eq_true.1 h (s[i]'hi) (by
    have : s[i]'hi = s.data[i]'hi := rfl
    rw [this]
    exact Array.mem_toList_iff.2 (Array.getElem_mem hi))
  exact of_decide_eq_true h2

/-! ### Calls from the empty memory, over a table without variables -/
section
open Ev
noncomputable section
def specsN : Nat → Option (List AVal → AMem → Out AVal)
  | 186 => some specIndexByte
  | _ => none

def seatN : Tab := tab specsN (fun _ => false)

theorem specsN_ok : ∀ f F, seatN.spec f = some F → CallOk seatN Tryz.prog f F := by
  intro f F h
  have h : specsN f = some F := h
  unfold specsN at h
  split at h
  · cases h; exact specIndexByte_ok Tryz.func186 (by kernel_rfl) (by kernel_rfl) (by kernel_rfl) (by kernel_rfl)
  · cases h

theorem soundN (k : Nat) (f : FuncId) : CallOk seatN Tryz.prog f (evFn seatN k f) := evFn_sound (tab_ok _ _) mixed specsN_ok k f

def m0 : AMem := ⟨0, .leaf⟩

def renNone : Ren := ⟨fun _ => none⟩

theorem m0_get {b : Nat} {k : ABlk} (h : m0.get b = some k) : False := by
  cases (show (none : Option ABlk) = some k from h)

theorem m0_rel (w : World) : MemRel renNone m0.next m0.get w where
  fresh := fun b B e => by cases e
  inw := fun b B e => by cases e
  blk := fun b k e => (m0_get e).elim
  inj := fun b1 k1 b2 k2 B1 B2 e => (m0_get e).elim
  whole := fun b B e vs ro frz h => (m0_get h).elim

theorem run_calls {T : Tab} {f : FuncId} {F : List AVal → AMem → Out AVal} (hglob : ∀ g, T.glob g = false) (hF : CallOk T Tryz.prog f F) (hent : ∀ args w, (callFunc f args).run Tryz.prog w = .ok (.enter f args) w)
    {args : List AVal} {args' : Array Value} {v : AVal} (ha : VsRel renNone args args'.toList) (hrun : runIs v (F args m0) = true) (w : World) :
    Calls Tryz.prog f args' w fun e w' => (∃ v', e = .returned v' ∧ VRel renNone v v') ∧ Below w.heap.size w w' := by
  obtain ⟨hfl, m', hout⟩ := runIs_spec hrun
  have hc := hF renNone w m0 args args' (fun g e => by rw [hglob g] at e; cases e) (m0_rel w) ha (by rw [hout]; trivial)
  rw [hout] at hc
  rcases hc with ⟨v', w', h1, _⟩ | ⟨_, h2⟩
  · rw [hent] at h1; cases h1
  · refine h2.mono fun e w' ⟨r', v', e1, hv, hst⟩ => ⟨⟨v', e1, flatF_rel 20 hfl hv⟩, below_of_step hst fun b k h => (m0_get h).elim⟩

set_option maxRecDepth 1000000 in
theorem run_T : runIs (.bool true) (evFn seatN 1000 32 [.str [84, 116, 32], .str [84]] m0) = true := by kernel_rfl

set_option maxRecDepth 1000000 in
theorem run_sp : runIs (.bool true) (evFn seatN 1000 32 [.str [84, 116, 32], .str [32]] m0) = true := by kernel_rfl

set_option maxRecDepth 1000000 in
theorem run_xob : ((List.range 10).all fun k => runIs (.bool false) (evFn seatN 1000 32 [.str [120, 111, 98], .str [UInt8.ofNat (48 + k)]] m0)) = true := by kernel_rfl

set_option maxRecDepth 1000000 in
theorem run_left : runIs (.str []) (evFn seatN 1000 73 [.str [53], .str [48, 49, 50, 51, 52, 53, 54, 55, 56, 57]] m0) = true := by kernel_rfl

set_option maxRecDepth 1000000 in
theorem run_ib45 : runIs (.int .i64 2) (evFn seatN 1000 120 [.str [95, 43, 45, 46, 58], .int .u8 45] m0) = true := by kernel_rfl

set_option maxRecDepth 1000000 in
theorem run_ib58 : runIs (.int .i64 4) (evFn seatN 1000 120 [.str [95, 43, 45, 46, 58], .int .u8 58] m0) = true := by kernel_rfl

set_option maxRecDepth 1000000 in
theorem run_ib32 : runIs (.int .i64 (-1)) (evFn seatN 1000 120 [.str [95, 43, 45, 46, 58], .int .u8 32] m0) = true := by kernel_rfl

def setA : List AVal := (List.range 256).map fun i => .bool (Nat.ble 48 i && Nat.ble i 57)

set_option maxRecDepth 1000000 in
theorem run_set : runIs (.tuple [.agg setA, .bool true]) (evFn seatN 1000 103 [.str [48, 49, 50, 51, 52, 53, 54, 55, 56, 57]] m0) = true := by kernel_rfl

def setE : List AVal := (List.range 256).map fun i => .bool (Nat.beq i 69 || Nat.beq i 101)

set_option maxRecDepth 1000000 in
theorem run_setE : runIs (.tuple [.agg setE, .bool true]) (evFn seatN 1000 103 [.str [101, 69]] m0) = true := by kernel_rfl

set_option maxRecDepth 1000000 in
theorem run_awake (z : Int) : (evFn seat 1000 14 [] (beginMem z)).isTrue = true := by kernel_rfl

end
end

def isDig (b : UInt8) : Bool := decide (48 ≤ b.toNat) && decide (b.toNat ≤ 57)

def valFrom : List UInt8 → Int → Int
  | [], v => v
  | b :: r, v => valFrom r (v * 10 + ((b.toNat : Int) - 48))

end Cut
end Go.Proofs.YtfddpaljmihinaaGreatDoor
