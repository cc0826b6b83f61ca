/-
  The memory that a law of this seat begins with, out of the variables that its row lists. (Conditions: the world is shaped; the variables are laid.)
-/
import Derived.Test.YtfddpaljmihinaaGreatDoorEvLaw
import Derived.LaidMore
import Derived.Lay
namespace Go.Proofs.YtfddpaljmihinaaGreatDoor
namespace Ev
open Go Go.Lib

/-- 'z': what MaxLen holds. -/
noncomputable def beginMem (z : Int) : AMem := startMem z 189 189

theorem name189 (u : TypeId) (h : Tryz.prog.typeName? 3 u = some "*errors.errorString") : u = 189 :=
  typeName_ptr_named (P := Tryz.prog) (nm := "errors.errorString") (tp := 189) (by kernel_rfl) (by kernel_rfl) (by decide) u h

def laidAll : List (String × DataW Unit) := [("math/bits.deBruijn32tab", Rows.laid_math_bits_deBruijn32tab), ("math/bits.deBruijn64tab", Rows.laid_math_bits_deBruijn64tab), ("internal/strconv.uint64pow10", Rows.laid_internal_strconv_uint64pow10), ("unicode/utf8.acceptRanges", Rows.laid_unicode_utf8_acceptRanges), ("strconv.ErrRange", Rows.laid_strconv_ErrRange), ("strconv.ErrSyntax", Rows.laid_strconv_ErrSyntax), ("unicode/utf8.first", Rows.laid_unicode_utf8_first)]

def accZss : List (List Int) := [[128,191],[160,191],[128,159],[144,191],[128,143],[0,0],[0,0],[0,0],[0,0],[0,0],[0,0],[0,0],[0,0],[0,0],[0,0],[0,0]]

theorem acc_at : ∀ q, q < 16 * 2 → accZ[q]? = (accZss[q / 2]?).bind (·[q % 2]?) := by
  intro q hq
  have h : ((List.range 32).all fun q => accZ[q]? == (accZss[q / 2]?).bind (·[q % 2]?)) = true := by kernel_rfl
  simpa using List.all_eq_true.1 h q (List.mem_range.2 hq)

set_option maxRecDepth 100000 in
theorem begin_rel {W : World} (hL : laidMet Tryz.prog laidAll W) (hsh : W.ShapedOpen Tryz.prog) : ∃ z, GlobOk seat (startRen W) ∧ MemRel (startRen W) (beginMem z).next (beginMem z).get W := by
  obtain ⟨z, h0⟩ := rowIs_int (row_of_shape hsh (g := 0) (t := 3) (of_decide_eq_true (by kernel_rfl)) (by kernel_rfl)) (cell_of_shapedOpen_int (zero := #[.int .i64 0]) hsh (of_decide_eq_true (by kernel_rfl)) (by kernel_rfl) rfl (by kernel_rfl) (by kernel_rfl) Tryz.underlying3)
  have h1 := rowIs_err (row_of_shape hsh (g := 1) (t := 70) (of_decide_eq_true (by kernel_rfl)) (by kernel_rfl)) (by kernel_rfl) (by kernel_rfl) Tryz.underlying70 (Go.Lib.laidMet.reads hL (n := "strconv.ErrSyntax") (d := Rows.laid_strconv_ErrSyntax) (by simp [laidAll])) name189
  have h2 := rowIs_err (row_of_shape hsh (g := 2) (t := 70) (of_decide_eq_true (by kernel_rfl)) (by kernel_rfl)) (by kernel_rfl) (by kernel_rfl) Tryz.underlying70 (Go.Lib.laidMet.reads hL (n := "strconv.ErrRange") (d := Rows.laid_strconv_ErrRange) (by simp [laidAll])) name189
  have h3 := rowIs_tab (k := .u8) (zs := firstZ) (row_of_shape hsh (g := 3) (t := 200) (of_decide_eq_true (by kernel_rfl)) (by kernel_rfl)) (by kernel_rfl) (by kernel_rfl) Tryz.underlying200 Tryz.underlying5 (by kernel_rfl) (by kernel_rfl)
    (by rw [show (tabData .u8 firstZ : DataW Unit) = Rows.laid_unicode_utf8_first by kernel_rfl]; exact Go.Lib.laidMet.reads hL (n := "unicode/utf8.first") (by simp [laidAll]))
  have h4 := rowIs_structs (k := .u8) (zs := accZ) (zss := accZss) (row_of_shape hsh (g := 4) (t := 203) (of_decide_eq_true (by kernel_rfl)) (by kernel_rfl)) (by kernel_rfl) (by kernel_rfl) Tryz.underlying203 Tryz.underlying202
    (fun i f hf => by
      match i, hf with
      | 0, hf => simp at hf; subst hf; exact ⟨Tryz.underlying5, rfl, by kernel_rfl⟩
      | 1, hf => simp at hf; subst hf; exact ⟨Tryz.underlying5, rfl, by kernel_rfl⟩
      | i + 2, hf => simp at hf) (by kernel_rfl) rfl (by decide) acc_at rfl
    (by rw [show (.agg (accZss.map fun zs => .agg (zs.map fun z => .lit (.int .u8 z))) : DataW Unit) = Rows.laid_unicode_utf8_acceptRanges by kernel_rfl]; exact Go.Lib.laidMet.reads hL (n := "unicode/utf8.acceptRanges") (by simp [laidAll]))
  have h5 := rowIs_tab (k := .u64) (zs := powZ) (row_of_shape hsh (g := 5) (t := 224) (of_decide_eq_true (by kernel_rfl)) (by kernel_rfl)) (by kernel_rfl) (by kernel_rfl) Tryz.underlying224 Tryz.underlying118 (by kernel_rfl) (by kernel_rfl)
    (by rw [show (tabData .u64 powZ : DataW Unit) = Rows.laid_internal_strconv_uint64pow10 by kernel_rfl]; exact Go.Lib.laidMet.reads hL (n := "internal/strconv.uint64pow10") (by simp [laidAll]))
  have h6 := rowIs_tab (k := .u8) (zs := db32Z) (row_of_shape hsh (g := 6) (t := 228) (of_decide_eq_true (by kernel_rfl)) (by kernel_rfl)) (by kernel_rfl) (by kernel_rfl) Tryz.underlying228 Tryz.underlying5 (by kernel_rfl) (by kernel_rfl)
    (by rw [show (tabData .u8 db32Z : DataW Unit) = Rows.laid_math_bits_deBruijn32tab by kernel_rfl]; exact Go.Lib.laidMet.reads hL (n := "math/bits.deBruijn32tab") (by simp [laidAll]))
  have h7 := rowIs_tab (k := .u8) (zs := db64Z) (row_of_shape hsh (g := 7) (t := 229) (of_decide_eq_true (by kernel_rfl)) (by kernel_rfl)) (by kernel_rfl) (by kernel_rfl) Tryz.underlying229 Tryz.underlying5 (by kernel_rfl) (by kernel_rfl)
    (by rw [show (tabData .u8 db64Z : DataW Unit) = Rows.laid_math_bits_deBruijn64tab by kernel_rfl]; exact Go.Lib.laidMet.reads hL (n := "math/bits.deBruijn64tab") (by simp [laidAll]))
  exact ⟨z, start_rel h0 h1 h2 h3 h4 h5 h6 h7⟩
end Ev
end Go.Proofs.YtfddpaljmihinaaGreatDoor
