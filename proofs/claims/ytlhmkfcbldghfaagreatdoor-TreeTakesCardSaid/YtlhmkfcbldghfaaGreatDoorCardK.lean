/- What the row's laid variables give the walks; a start at which they are laid. Conditions: none. -/
import Derived.Test.YtlhmkfcbldghfaaGreatDoorRows
import Derived.Test.YtlhmkfcbldghfaaGreatDoorCards
import Derived.Test.YtlhmkfcbldghfaaGreatDoorTie
import Derived.Test.YtlhmkfcbldghfaaGreatDoorTkC
import Derived.Test.YtlhmkfcbldghfaaGreatDoorTokSq
import Derived.Lay
import Derived.LaidOnce
import Derived.ProofKit
import Derived.LaidMore
import Derived.OpenShut
import Derived.Stop.Joined
import Derived.Stop.LaidErr
import Derived.SevenTiedAt
namespace Go.Proofs.YtlhmkfcbldghfaaGreatDoor
set_option linter.all false
set_option maxRecDepth 1000000
set_option maxHeartbeats 16000000
open Go Go.ChangeShapes Go.WideShapes Go.ChangeAt Go.RowKit
theorem star : "*" ++ "errors.errorString" = "*errors.errorString" := by decide
theorem row_err (u : TypeId) (h : Tryz.prog.typeName? 3 u = some "*errors.errorString") : u = 300 :=
 typeName_ptr_named (nm := "errors.errorString") (by rw [star]; kernel_rfl) (by kernel_rfl) (by decide) u (by rw [star]; exact h)
theorem g_errT : (Tryz.prog.globals[3]?).map (·.type) = some 206 := by kernel_rfl
theorem space_tab : (Rows.laid_strings_asciiSpace : DataW Unit) = Lib.tabData .u8 Lib.asciiSpaceTab := by kernel_rfl
def zsOf (d : DataW Unit) : List Int := match d with
 | .agg ps => ps.map fun p => match p with | .lit (.int _ z) => z | _ => 0
 | _ => []
theorem dbr_tab : (Rows.laid_math_bits_deBruijn64tab : DataW Unit) = Lib.tabData .u8 (zsOf Rows.laid_math_bits_deBruijn64tab) := by kernel_rfl
theorem dbr_at : ((zsOf Rows.laid_math_bits_deBruijn64tab).map fun z => Value.int .u8 z).toArray[15]? = some (.int .u8 4) := by kernel_rfl
theorem p10_tab : (Rows.laid_internal_strconv_uint64pow10 : DataW Unit) = Lib.tabData .u64 Lib.pow10Tab := by kernel_rfl
theorem gx_of_laid {W : World} (h : laidMetH Tryz.prog Rows.treeTakesRow.laid W) : Gx W := by
 rw [MakeChecks.laidMetH_plain _ _ _ (by kernel_rfl)] at h
 have h1 : laidMet Tryz.prog (("math/bits.deBruijn64tab", Rows.laid_math_bits_deBruijn64tab) :: [("internal/strconv.uint64pow10", Rows.laid_internal_strconv_uint64pow10), ("unicode/utf8.acceptRanges", Rows.laid_unicode_utf8_acceptRanges), ("strconv.ErrRange", Rows.laid_strconv_ErrRange), ("strconv.ErrSyntax", Rows.laid_strconv_ErrSyntax), ("unicode.White_Space", Rows.laid_unicode_White_Space), ("strings.asciiSpace", Rows.laid_strings_asciiSpace), ("unicode.CaseRanges", Rows.laid_unicode_CaseRanges), ("unicode/utf8.first", Rows.laid_unicode_utf8_first)]) W := laidMet.tail h
 have h2 := laidMet.tail h1
 have h4 : laidMet Tryz.prog [("strconv.ErrRange", Rows.laid_strconv_ErrRange), ("strconv.ErrSyntax", Rows.laid_strconv_ErrSyntax), ("unicode.White_Space", Rows.laid_unicode_White_Space), ("strings.asciiSpace", Rows.laid_strings_asciiSpace), ("unicode.CaseRanges", Rows.laid_unicode_CaseRanges), ("unicode/utf8.first", Rows.laid_unicode_utf8_first)] W := laidMet.tail (laidMet.tail h2)
 have h7 := laidMet.tail (laidMet.tail (laidMet.tail h4))
 rw [space_tab] at h7
 rw [dbr_tab] at h1
 rw [p10_tab] at h2
 obtain ⟨a, s, hv, _⟩ := laid_sentinel h4 g_err g_errT Tryz.underlying206 row_err Tryz.underlying300 Tryz.underlying302 rfl rfl Tryz.underlying9 (by kernel_rfl) (by kernel_rfl)
 refine ⟨⟨Lib.tabIs_of_head g_tab (by kernel_rfl) Tryz.underlying201 Tryz.underlying5 (by kernel_rfl) (by kernel_rfl) h7, _, hv, .inr ⟨_, _, rfl⟩⟩, ?_, ?_⟩
 ·exact Lib.tabIs_of_head g_p10 (by kernel_rfl) Tryz.underlying316 Tryz.underlying204 (by kernel_rfl) (by kernel_rfl) h2
 ·exact ⟨_, Lib.tabIs_of_head g_dbr (by kernel_rfl) Tryz.underlying331 Tryz.underlying5 (by kernel_rfl) (by kernel_rfl) h1, dbr_at⟩
theorem back_met (os : Os) (args : Array Value) : laidMetH Tryz.prog Rows.treeTakesRow.laid ((World.laidAll Tryz.prog os Rows.treeTakesRow.laid).forCall (fun _ _ => 0) ⟨#[], args, []⟩).memory := by
 rw [MakeChecks.laidMetH_plain _ _ _ (by kernel_rfl)]
 exact laidMet_laidAll _ (by kernel_rfl) (by kernel_rfl)
theorem back_os (os : Os) : (World.laidAll Tryz.prog os Rows.treeTakesRow.laid).os = os := World.laidAll_os _ _ _
end Go.Proofs.YtlhmkfcbldghfaaGreatDoor
