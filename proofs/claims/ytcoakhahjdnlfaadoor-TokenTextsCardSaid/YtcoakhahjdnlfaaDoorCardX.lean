/- What the laid variables of the rows TokenTexts and TokenBack give the walks; a start at which they are laid. Conditions: none. -/
import Derived.Test.YtcoakhahjdnlfaaDoorCardT
import Derived.Test.YtcoakhahjdnlfaaDoorTokSq
import Derived.Lay
import Derived.LaidOnce
namespace Go.Proofs.YtcoakhahjdnlfaaDoor
set_option linter.all false
open Go Go.ChangeShapes Go.WideShapes Go.ChangeAt Go.RowKit
def zsOf (d : DataW Unit) : List Int := match d with
  | .agg ps => ps.map fun p => match p with | .lit (.int _ z) => z | _ => 0
  | _ => []
theorem dbr_tab : (Rows.laid_math_bits_deBruijn64tab : DataW Unit) = Lib.tabData .u8 (zsOf Rows.laid_math_bits_deBruijn64tab) := by kernel_rfl
theorem dbr_at : ((zsOf Rows.laid_math_bits_deBruijn64tab).map fun z => Value.int .u8 z).toArray[15]? = some (.int .u8 4) := by kernel_rfl
theorem p10_tab : (Rows.laid_internal_strconv_uint64pow10 : DataW Unit) = Lib.tabData .u64 Lib.pow10Tab := by kernel_rfl
theorem gx_of_laid {W : World} (h : laidMetH Tryd.prog Rows.tokenBackRow.laid W) : Gx W := by
  rw [MakeChecks.laidMetH_plain _ _ _ (by kernel_rfl)] at h
  have h1 : laidMet Tryd.prog (("math/bits.deBruijn64tab", Rows.laid_math_bits_deBruijn64tab) :: [("internal/strconv.uint64pow10", Rows.laid_internal_strconv_uint64pow10), ("unicode/utf8.acceptRanges", Rows.laid_unicode_utf8_acceptRanges), ("strconv.ErrRange", Rows.laid_strconv_ErrRange), ("strconv.ErrSyntax", Rows.laid_strconv_ErrSyntax), ("unicode.White_Space", Rows.laid_unicode_White_Space), ("strings.asciiSpace", Rows.laid_strings_asciiSpace), ("unicode.CaseRanges", Rows.laid_unicode_CaseRanges), ("unicode/utf8.first", Rows.laid_unicode_utf8_first)]) W := laidMet.tail h
  have h2 := laidMet.tail h1
  have h4 : laidMet Tryd.prog [("strconv.ErrRange", Rows.laid_strconv_ErrRange), ("strconv.ErrSyntax", Rows.laid_strconv_ErrSyntax), ("unicode.White_Space", Rows.laid_unicode_White_Space), ("strings.asciiSpace", Rows.laid_strings_asciiSpace), ("unicode.CaseRanges", Rows.laid_unicode_CaseRanges), ("unicode/utf8.first", Rows.laid_unicode_utf8_first)] W := laidMet.tail (laidMet.tail h2)
  have h7 := laidMet.tail (laidMet.tail (laidMet.tail h4))
  rw [space_tab] at h7
  rw [dbr_tab] at h1
  rw [p10_tab] at h2
  obtain ⟨a, s, hv, _⟩ := laid_sentinel h4 g_err g_errT Tryd.underlying102 row_err Tryd.underlying198 Tryd.underlying200 rfl rfl Tryd.underlying9 (by kernel_rfl) (by kernel_rfl)
  refine ⟨⟨Lib.tabIs_of_head g_tab (by kernel_rfl) Tryd.underlying109 Tryd.underlying5 (by kernel_rfl) (by kernel_rfl) h7, _, hv, .inr ⟨_, _, rfl⟩⟩, ?_, ?_⟩
  · exact Lib.tabIs_of_head g_p10 (by kernel_rfl) Tryd.underlying187 Tryd.underlying112 (by kernel_rfl) (by kernel_rfl) h2
  · exact ⟨_, Lib.tabIs_of_head g_dbr (by kernel_rfl) Tryd.underlying211 Tryd.underlying5 (by kernel_rfl) (by kernel_rfl) h1, dbr_at⟩
set_option maxRecDepth 100000 in
theorem back_met (os : Os) (args : Array Value) : laidMetH Tryd.prog Rows.tokenBackRow.laid ((World.laidAll Tryd.prog os Rows.tokenBackRow.laid).forCall (fun _ _ => 0) ⟨#[], args, []⟩).memory := by
  rw [MakeChecks.laidMetH_plain _ _ _ (by kernel_rfl)]
  exact laidMet_laidAll _ (by kernel_rfl) (by kernel_rfl)
theorem back_os (os : Os) : (World.laidAll Tryd.prog os Rows.tokenBackRow.laid).os = os := World.laidAll_os _ _ _
end Go.Proofs.YtcoakhahjdnlfaaDoor
