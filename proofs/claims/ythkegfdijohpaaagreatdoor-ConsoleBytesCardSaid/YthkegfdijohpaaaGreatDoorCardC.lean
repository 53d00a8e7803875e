/- What the row's laid variables give the walks; a start at which they are laid. Conditions: none. -/
import Derived.Test.YthkegfdijohpaaaGreatDoorRows
import Derived.Test.YthkegfdijohpaaaGreatDoorCards
import Derived.Test.YthkegfdijohpaaaGreatDoorCnG
import Derived.Test.YthkegfdijohpaaaGreatDoorTiD
import Derived.Lay
import Derived.LaidOnce
import Derived.ProofKit
import Derived.LaidMore
import Derived.OpenShut
import Derived.Stop.Joined
import Derived.Stop.LaidErr
import Derived.SevenTiedAt
namespace Go.Proofs.YthkegfdijohpaaaGreatDoor
set_option linter.all false
set_option maxRecDepth 1000000
set_option maxHeartbeats 16000000
open Go Go.ChangeShapes Go.WideShapes Go.ChangeAt Go.RowKit
theorem star : "*" ++ "errors.errorString" = "*errors.errorString" := by decide
theorem row_err (u : TypeId) (h : Tryz.prog.typeName? 3 u = some "*errors.errorString") : u = 398 :=
 typeName_ptr_named (nm := "errors.errorString") (by rw [star]; kernel_rfl) (by kernel_rfl) (by decide) u (by rw [star]; exact h)
theorem g_errST : (Tryz.prog.globals[2]?).map (·.type) = some 72 := by kernel_rfl
theorem p10_tab : (Rows.laid_internal_strconv_uint64pow10 : DataW Unit) = Lib.tabData .u64 Lib.pow10Tab := by kernel_rfl
theorem gc_of_laid {W : World} (h : laidMetH Tryz.prog Rows.consoleReadsRow.laid W) : Gc W := by
 rw [MakeChecks.laidMetH_plain _ _ _ (by kernel_rfl)] at h
 have h0 : laidMet Tryz.prog (("strconv.ErrSyntax", Rows.laid_strconv_ErrSyntax) :: [("strconv.ErrRange", Rows.laid_strconv_ErrRange), ("internal/strconv.uint64pow10", Rows.laid_internal_strconv_uint64pow10), ("math/bits.deBruijn32tab", Rows.laid_math_bits_deBruijn32tab), ("math/bits.deBruijn64tab", Rows.laid_math_bits_deBruijn64tab), ("strings.asciiSpace", Rows.laid_strings_asciiSpace), ("unicode.White_Space", Rows.laid_unicode_White_Space), ("unicode/utf8.first", Rows.laid_unicode_utf8_first), ("unicode/utf8.acceptRanges", Rows.laid_unicode_utf8_acceptRanges), ("unicode.CaseRanges", Rows.laid_unicode_CaseRanges)]) W := h
 have h2 := laidMet.tail (laidMet.tail h0)
 rw [p10_tab] at h2
 obtain ⟨a, s, hv, _⟩ := laid_sentinel h0 cg_errS g_errST Tryz.underlying72 row_err Tryz.underlying398 Tryz.underlying400 rfl rfl Tryz.underlying9 (by kernel_rfl) (by kernel_rfl)
 exact ⟨Lib.tabIs_of_head cg_pow (by kernel_rfl) Tryz.underlying201 Tryz.underlying86 (by kernel_rfl) (by kernel_rfl) h2, _, hv, .inr ⟨_, _, rfl⟩⟩
theorem back_met (os : Os) (args : Array Value) : laidMetH Tryz.prog Rows.consoleReadsRow.laid ((World.laidAll Tryz.prog os Rows.consoleReadsRow.laid).forCall (fun _ _ => 0) ⟨#[], args, []⟩).memory := by
 rw [MakeChecks.laidMetH_plain _ _ _ (by kernel_rfl)]
 exact laidMet_laidAll _ (by kernel_rfl) (by kernel_rfl)
theorem back_os (os : Os) : (World.laidAll Tryz.prog os Rows.consoleReadsRow.laid).os = os := World.laidAll_os _ _ _
end Go.Proofs.YthkegfdijohpaaaGreatDoor
