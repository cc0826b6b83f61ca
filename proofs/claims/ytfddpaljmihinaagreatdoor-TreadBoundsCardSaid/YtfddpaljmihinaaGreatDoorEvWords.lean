/-
  The kernel's runs of the evaluator at small words: esc.Bare, tlex.Number. (Conditions: none.) Written by wip/tools/words.py.
-/
import Derived.Test.YtfddpaljmihinaaGreatDoorEvMemo
namespace Go.Proofs.YtfddpaljmihinaaGreatDoor
namespace Ev
open Go
noncomputable section
set_option maxRecDepth 1000000

def bareTab : List (List AVal × AVal) := [([.str [97]], .bool true), ([.str [98]], .bool true), ([.str [99]], .bool true), ([.str [107]], .bool true), ([.str [120]], .bool true), ([.str [121]], .bool true), ([.str [108]], .bool true), ([.str [116]], .bool true), ([.str [48]], .bool true), ([.str [49]], .bool true), ([.str [50]], .bool true), ([.str [51]], .bool true), ([.str [52]], .bool true), ([.str [53]], .bool true), ([.str [54]], .bool true), ([.str [55]], .bool true), ([.str [56]], .bool true), ([.str [57]], .bool true), ([.str [46]], .bool false), ([.str [95]], .bool true), ([.str [45]], .bool true), ([.str [93]], .bool false), ([.str [32]], .bool false), ([.str [61]], .bool false), ([.str [91]], .bool false), ([.str [34]], .bool false), ([.str [123]], .bool false), ([.str [44]], .bool false), ([.str [35]], .bool false), ([.str [10]], .bool false)]
def numTab : List (List AVal × AVal) := [([.str [48]], .tuple [.agg [.int .i64 2, .int .i64 0, .str [], .nslice, .nslice], .int .i64 0]), ([.str [49]], .tuple [.agg [.int .i64 2, .int .i64 1, .str [], .nslice, .nslice], .int .i64 0]), ([.str [50]], .tuple [.agg [.int .i64 2, .int .i64 2, .str [], .nslice, .nslice], .int .i64 0]), ([.str [51]], .tuple [.agg [.int .i64 2, .int .i64 3, .str [], .nslice, .nslice], .int .i64 0]), ([.str [52]], .tuple [.agg [.int .i64 2, .int .i64 4, .str [], .nslice, .nslice], .int .i64 0]), ([.str [53]], .tuple [.agg [.int .i64 2, .int .i64 5, .str [], .nslice, .nslice], .int .i64 0]), ([.str [54]], .tuple [.agg [.int .i64 2, .int .i64 6, .str [], .nslice, .nslice], .int .i64 0]), ([.str [55]], .tuple [.agg [.int .i64 2, .int .i64 7, .str [], .nslice, .nslice], .int .i64 0]), ([.str [56]], .tuple [.agg [.int .i64 2, .int .i64 8, .str [], .nslice, .nslice], .int .i64 0]), ([.str [57]], .tuple [.agg [.int .i64 2, .int .i64 9, .str [], .nslice, .nslice], .int .i64 0]), ([.str [49, 48]], .tuple [.agg [.int .i64 2, .int .i64 10, .str [], .nslice, .nslice], .int .i64 0]), ([.str [49, 49]], .tuple [.agg [.int .i64 2, .int .i64 11, .str [], .nslice, .nslice], .int .i64 0]), ([.str [49, 50]], .tuple [.agg [.int .i64 2, .int .i64 12, .str [], .nslice, .nslice], .int .i64 0]), ([.str [49, 51]], .tuple [.agg [.int .i64 2, .int .i64 13, .str [], .nslice, .nslice], .int .i64 0]), ([.str [49, 52]], .tuple [.agg [.int .i64 2, .int .i64 14, .str [], .nslice, .nslice], .int .i64 0]), ([.str [49, 53]], .tuple [.agg [.int .i64 2, .int .i64 15, .str [], .nslice, .nslice], .int .i64 0]), ([.str [49, 54]], .tuple [.agg [.int .i64 2, .int .i64 16, .str [], .nslice, .nslice], .int .i64 0]), ([.str [49, 55]], .tuple [.agg [.int .i64 2, .int .i64 17, .str [], .nslice, .nslice], .int .i64 0]), ([.str [49, 56]], .tuple [.agg [.int .i64 2, .int .i64 18, .str [], .nslice, .nslice], .int .i64 0]), ([.str [49, 57]], .tuple [.agg [.int .i64 2, .int .i64 19, .str [], .nslice, .nslice], .int .i64 0]), ([.str [50, 48]], .tuple [.agg [.int .i64 2, .int .i64 20, .str [], .nslice, .nslice], .int .i64 0]), ([.str [50, 49]], .tuple [.agg [.int .i64 2, .int .i64 21, .str [], .nslice, .nslice], .int .i64 0]), ([.str [50, 50]], .tuple [.agg [.int .i64 2, .int .i64 22, .str [], .nslice, .nslice], .int .i64 0]), ([.str [50, 51]], .tuple [.agg [.int .i64 2, .int .i64 23, .str [], .nslice, .nslice], .int .i64 0]), ([.str [50, 52]], .tuple [.agg [.int .i64 2, .int .i64 24, .str [], .nslice, .nslice], .int .i64 0]), ([.str [50, 53]], .tuple [.agg [.int .i64 2, .int .i64 25, .str [], .nslice, .nslice], .int .i64 0]), ([.str [50, 54]], .tuple [.agg [.int .i64 2, .int .i64 26, .str [], .nslice, .nslice], .int .i64 0]), ([.str [50, 55]], .tuple [.agg [.int .i64 2, .int .i64 27, .str [], .nslice, .nslice], .int .i64 0]), ([.str [50, 56]], .tuple [.agg [.int .i64 2, .int .i64 28, .str [], .nslice, .nslice], .int .i64 0]), ([.str [50, 57]], .tuple [.agg [.int .i64 2, .int .i64 29, .str [], .nslice, .nslice], .int .i64 0]), ([.str [51, 48]], .tuple [.agg [.int .i64 2, .int .i64 30, .str [], .nslice, .nslice], .int .i64 0])]
def allRuns (F : List AVal → AMem → Out AVal) (z : Int) (l : List (List AVal × AVal)) : Bool := l.all fun x => runIs x.2 (F x.1 (smallMem z))
theorem run_bare (z : Int) : allRuns (xFn seatS 1000 78) z bareTab = true := by kernel_rfl
theorem run_num (z : Int) : allRuns (xFn seatS 1000 15) z numTab = true := by kernel_rfl
def bareF : List AVal → AMem → Out AVal := memoF bareTab (xFn seatS 1000 78)
def numF : List AVal → AMem → Out AVal := memoF numTab (xFn seatS 1000 15)
theorem bare_ok : CallOk seatS Tryz.prog 78 bareF := memo_ok globs_lt (soundXS 1000 78) fun z x hx => List.all_eq_true.1 (run_bare z) x hx
theorem num_ok : CallOk seatS Tryz.prog 15 numF := memo_ok globs_lt (soundXS 1000 15) fun z x hx => List.all_eq_true.1 (run_num z) x hx

def specsP (f : Nat) : Option (List AVal → AMem → Out AVal) :=
  match f with
  | 15 => some numF
  | 78 => some bareF
  | f => specsS f
def seatP : Tab := tab specsP globs
theorem specsP_ok : ∀ f F, seatP.spec f = some F → CallOk seatP Tryz.prog f F := by
  intro f F h
  have h : specsP f = some F := h
  unfold specsP at h
  split at h
  · cases h; exact num_ok
  · cases h; exact bare_ok
  · exact specsS_ok f F h
theorem soundP (k : Nat) (f : FuncId) : CallOk seatP Tryz.prog f (evFn seatP k f) := evFn_sound (tab_ok specsP globs) mixed specsP_ok k f
theorem soundXP (k : Nat) (f : FuncId) : CallOk seatP Tryz.prog f (xFn seatP k f) := by rw [xFn_eq]; exact soundP k f
end
end Ev
end Go.Proofs.YtfddpaljmihinaaGreatDoor
