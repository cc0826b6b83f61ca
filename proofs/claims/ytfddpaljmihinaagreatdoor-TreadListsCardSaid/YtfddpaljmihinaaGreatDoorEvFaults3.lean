/-
  The kernel's runs of the evaluator: dragomanlaw11's awake, and its fault at the texts of TreadKnown. (Conditions: none.) Written by wip/tools/known.py.
-/
import Derived.Test.YtfddpaljmihinaaGreatDoorEvSeatT3
namespace Go.Proofs.YtfddpaljmihinaaGreatDoor
namespace Ev
open Go
noncomputable section
set_option maxRecDepth 1000000
theorem run_awake (z : Int) : runIs (.bool true) (xFn seatT 1000 23 [] (smallMem z)) = true := by kernel_rfl

def text0 : List UInt8 := [91, 97, 93, 10, 91, 97, 93]
theorem run_fault0 (z : Int) : runIs (.int .i64 5) (xFn seatT 1000 24 [.str text0] (smallMem z)) = true := by kernel_rfl
def text1 : List UInt8 := [91, 97, 46, 98, 93, 10, 91, 97, 93, 10, 91, 97, 46, 99, 93]
theorem run_fault1 (z : Int) : runIs (.int .i64 0) (xFn seatT 1000 24 [.str text1] (smallMem z)) = true := by kernel_rfl
def text2 : List UInt8 := [97, 32, 61, 32, 49, 10, 91, 97, 93]
theorem run_fault2 (z : Int) : runIs (.int .i64 8) (xFn seatT 1000 24 [.str text2] (smallMem z)) = true := by kernel_rfl
def text3 : List UInt8 := [97, 46, 98, 32, 61, 32, 49, 10, 91, 97, 93]
theorem run_fault3 (z : Int) : runIs (.int .i64 5) (xFn seatT 1000 24 [.str text3] (smallMem z)) = true := by kernel_rfl
def text4 : List UInt8 := [91, 97, 93, 10, 98, 46, 99, 32, 61, 32, 49, 10, 91, 97, 46, 98, 93]
theorem run_fault4 (z : Int) : runIs (.int .i64 5) (xFn seatT 1000 24 [.str text4] (smallMem z)) = true := by kernel_rfl
def text5 : List UInt8 := [91, 91, 97, 93, 93, 10, 91, 91, 97, 93, 93, 10, 91, 97, 46, 98, 93]
theorem run_fault5 (z : Int) : runIs (.int .i64 0) (xFn seatT 1000 24 [.str text5] (smallMem z)) = true := by kernel_rfl
def text6 : List UInt8 := [97, 32, 61, 32, 91, 93, 10, 91, 91, 97, 93, 93]
theorem run_fault6 (z : Int) : runIs (.int .i64 8) (xFn seatT 1000 24 [.str text6] (smallMem z)) = true := by kernel_rfl
def text7 : List UInt8 := [97, 32, 61, 32, 123, 98, 32, 61, 32, 49, 125, 10, 97, 46, 99, 32, 61, 32, 50]
theorem run_fault7 (z : Int) : runIs (.int .i64 8) (xFn seatT 1000 24 [.str text7] (smallMem z)) = true := by kernel_rfl
def text8 : List UInt8 := [91, 97, 46, 98, 93, 10, 91, 97, 93, 10, 98, 46, 99, 32, 61, 32, 49]
theorem run_fault8 (z : Int) : runIs (.int .i64 8) (xFn seatT 1000 24 [.str text8] (smallMem z)) = true := by kernel_rfl
def text9 : List UInt8 := [97, 32, 61, 32, 123, 98, 32, 61, 32, 49, 44, 125]
theorem run_fault9 (z : Int) : runIs (.int .i64 4) (xFn seatT 1000 24 [.str text9] (smallMem z)) = true := by kernel_rfl
def text10 : List UInt8 := [97, 32, 61, 32, 91, 49, 44, 10, 50, 44, 32, 35, 32, 120, 10, 93]
theorem run_fault10 (z : Int) : runIs (.int .i64 0) (xFn seatT 1000 24 [.str text10] (smallMem z)) = true := by kernel_rfl
def text11 : List UInt8 := [97, 32, 61, 32, 49, 32, 98, 32, 61, 32, 50]
theorem run_fault11 (z : Int) : runIs (.int .i64 4) (xFn seatT 1000 24 [.str text11] (smallMem z)) = true := by kernel_rfl
def text12 : List UInt8 := [97, 32, 61, 32]
theorem run_fault12 (z : Int) : runIs (.int .i64 4) (xFn seatT 1000 24 [.str text12] (smallMem z)) = true := by kernel_rfl
def awakeTab : List (List AVal × AVal) := [([], .bool true)]
def faultTab : List (List AVal × AVal) := [([.str text0], .int .i64 5), ([.str text1], .int .i64 0), ([.str text2], .int .i64 8), ([.str text3], .int .i64 5), ([.str text4], .int .i64 5), ([.str text5], .int .i64 0), ([.str text6], .int .i64 8), ([.str text7], .int .i64 8), ([.str text8], .int .i64 8), ([.str text9], .int .i64 4), ([.str text10], .int .i64 0), ([.str text11], .int .i64 4), ([.str text12], .int .i64 4)]
theorem awake_ok : CallOk seatT Tryz.prog 23 (memoF awakeTab (xFn seatT 1000 23)) := memo_ok globs_lt (soundXT 1000 23) fun z x hx => by
  simp only [awakeTab, List.mem_cons, List.not_mem_nil, or_false] at hx
  subst hx
  exact run_awake z
theorem fault_ok : CallOk seatT Tryz.prog 24 (memoF faultTab (xFn seatT 1000 24)) := memo_ok globs_lt (soundXT 1000 24) fun z x hx => by
  simp only [faultTab, List.mem_cons, List.not_mem_nil, or_false] at hx
  rcases hx with rfl | rfl | rfl | rfl | rfl | rfl | rfl | rfl | rfl | rfl | rfl | rfl | rfl
  · exact run_fault0 z
  · exact run_fault1 z
  · exact run_fault2 z
  · exact run_fault3 z
  · exact run_fault4 z
  · exact run_fault5 z
  · exact run_fault6 z
  · exact run_fault7 z
  · exact run_fault8 z
  · exact run_fault9 z
  · exact run_fault10 z
  · exact run_fault11 z
  · exact run_fault12 z

def specsK (f : Nat) : Option (List AVal → AMem → Out AVal) :=
  match f with
  | 23 => some (memoF awakeTab (xFn seatT 1000 23))
  | 24 => some (memoF faultTab (xFn seatT 1000 24))
  | f => specsT f
def seatK : Tab := tab specsK globs
theorem specsK_ok : ∀ f F, seatK.spec f = some F → CallOk seatK Tryz.prog f F := by
  intro f F h
  have h : specsK f = some F := h
  unfold specsK at h
  split at h
  · cases h; exact awake_ok
  · cases h; exact fault_ok
  · exact specsT_ok f F h
/-- The evaluator with dragomanlaw11's awake taken as run. -/
theorem soundK (k : Nat) (f : FuncId) : CallOk seatK Tryz.prog f (evFn seatK k f) := evFn_sound (tab_ok specsK globs) mixed specsK_ok k f
theorem soundXK (k : Nat) (f : FuncId) : CallOk seatK Tryz.prog f (xFn seatK k f) := xFn_sound (tab_ok specsK globs) mixed specsK_ok k f
theorem run_treadKnown (z : Int) : (xFn seatK 1000 8 [] (beginMem z)).isTrue = true := by kernel_rfl
end
end Ev
end Go.Proofs.YtfddpaljmihinaaGreatDoor
