/-
  The seat's tie and the rows' ties, out of their closed facts. (Conditions: none.)
-/
import Derived.Test.YtjmapihogpdocaaGreatDoorEvTieA
import Derived.Test.YtjmapihogpdocaaGreatDoorEvTieB
import Derived.Test.YtjmapihogpdocaaGreatDoorEvTieC
import Derived.Test.YtjmapihogpdocaaGreatDoorEvTieD
import Derived.Test.YtjmapihogpdocaaGreatDoorEvTieE
import Derived.Test.YtjmapihogpdocaaGreatDoorEvTieF
import Derived.Test.YtjmapihogpdocaaGreatDoorEvTieG
import Derived.Test.YtjmapihogpdocaaGreatDoorEvTieH
import Derived.SevenTiedAt
namespace Go.Proofs.YtjmapihogpdocaaGreatDoor
open Go
theorem own_pin_laid_unicode_utf8_first : Tryz.pinned.checked.prog.pinnedFits "unicode/utf8.first" = true := by kernel_rfl
theorem own_noOwnUnsafe : Tryz.pinned.checked.prog.headLifts.contains "ownunsafe" = false := by kernel_rfl
theorem own_fits1 : Tryz.pinned.checked.prog.listedFits [("unicode/utf8.first", Rows.laid_unicode_utf8_first), ("unicode/utf8.acceptRanges", Rows.laid_unicode_utf8_acceptRanges), ("strconv.ErrSyntax", Rows.laid_strconv_ErrSyntax), ("strconv.ErrRange", Rows.laid_strconv_ErrRange), ("internal/strconv.uint64pow10", Rows.laid_internal_strconv_uint64pow10), ("math/bits.deBruijn32tab", Rows.laid_math_bits_deBruijn32tab), ("math/bits.deBruijn64tab", Rows.laid_math_bits_deBruijn64tab)] = true := by
  unfold Program.listedFits
  rw [own_noOwnUnsafe]
  kernel_rfl
theorem own_tie : Tryz.prog.laidByTextLater [("unicode/utf8.acceptRanges", Rows.laid_unicode_utf8_acceptRanges), ("strconv.ErrSyntax", Rows.laid_strconv_ErrSyntax), ("strconv.ErrRange", Rows.laid_strconv_ErrRange), ("internal/strconv.uint64pow10", Rows.laid_internal_strconv_uint64pow10), ("math/bits.deBruijn32tab", Rows.laid_math_bits_deBruijn32tab), ("math/bits.deBruijn64tab", Rows.laid_math_bits_deBruijn64tab)] [.data, .sentinel, .sentinel, .data, .data, .data] true :=
  Program.laidByTextLater_by_run 400 8 own_hw own_hw2 own_hroot own_hk own_hg own_hn own_hd own_h1 own_h2
theorem own_topNames_row_tie : Rows.topNamesRow.laidByTextAt .later Tryz.pinned [.pinned, .data, .sentinel, .sentinel, .data, .data, .data] true :=
  OpenClaim.laidByTextAt_pinned rfl rfl own_tie rfl rfl rfl rfl (fun y hy _e => by
    simp only [Rows.topNamesRow, List.zip_cons_cons, List.zip_nil_right, List.mem_cons, List.mem_nil_iff, or_false] at hy
    rcases hy with rfl | rfl | rfl | rfl | rfl | rfl | rfl
    · exact ⟨own_pin_laid_unicode_utf8_first, by kernel_rfl⟩
    · cases _e
    · cases _e
    · cases _e
    · cases _e
    · cases _e
    · cases _e) own_fits1
theorem own_convKnown_row_tie : Rows.convKnownRow.laidByTextAt .later Tryz.pinned [.pinned, .data, .sentinel, .sentinel, .data, .data, .data] true :=
  OpenClaim.laidByTextAt_pinned rfl rfl own_tie rfl rfl rfl rfl (fun y hy _e => by
    simp only [Rows.convKnownRow, List.zip_cons_cons, List.zip_nil_right, List.mem_cons, List.mem_nil_iff, or_false] at hy
    rcases hy with rfl | rfl | rfl | rfl | rfl | rfl | rfl
    · exact ⟨own_pin_laid_unicode_utf8_first, by kernel_rfl⟩
    · cases _e
    · cases _e
    · cases _e
    · cases _e
    · cases _e
    · cases _e) own_fits1
theorem own_scriptKnown_row_tie : Rows.scriptKnownRow.laidByTextAt .later Tryz.pinned [.pinned, .data, .sentinel, .sentinel, .data, .data, .data] true :=
  OpenClaim.laidByTextAt_pinned rfl rfl own_tie rfl rfl rfl rfl (fun y hy _e => by
    simp only [Rows.scriptKnownRow, List.zip_cons_cons, List.zip_nil_right, List.mem_cons, List.mem_nil_iff, or_false] at hy
    rcases hy with rfl | rfl | rfl | rfl | rfl | rfl | rfl
    · exact ⟨own_pin_laid_unicode_utf8_first, by kernel_rfl⟩
    · cases _e
    · cases _e
    · cases _e
    · cases _e
    · cases _e
    · cases _e) own_fits1
theorem own_topGone_row_tie : Rows.topGoneRow.laidByTextAt .later Tryz.pinned [.pinned, .data, .sentinel, .sentinel, .data, .data, .data] true :=
  OpenClaim.laidByTextAt_pinned rfl rfl own_tie rfl rfl rfl rfl (fun y hy _e => by
    simp only [Rows.topGoneRow, List.zip_cons_cons, List.zip_nil_right, List.mem_cons, List.mem_nil_iff, or_false] at hy
    rcases hy with rfl | rfl | rfl | rfl | rfl | rfl | rfl
    · exact ⟨own_pin_laid_unicode_utf8_first, by kernel_rfl⟩
    · cases _e
    · cases _e
    · cases _e
    · cases _e
    · cases _e
    · cases _e) own_fits1
end Go.Proofs.YtjmapihogpdocaaGreatDoor
