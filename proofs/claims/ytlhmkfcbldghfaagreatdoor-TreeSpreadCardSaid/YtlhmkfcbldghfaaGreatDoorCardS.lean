/- What the rows' laid variables give the walks. Conditions: none. -/
import Derived.Test.YtlhmkfcbldghfaaGreatDoorRows
import Derived.Test.YtlhmkfcbldghfaaGreatDoorCards
import Derived.Test.YtlhmkfcbldghfaaGreatDoorTie
import Derived.Test.YtlhmkfcbldghfaaGreatDoorTkC
import Derived.ProofKit
import Derived.LaidMore
import Derived.OpenShut
import Derived.Stop.Joined
import Derived.Stop.LaidErr
import Derived.SevenTiedAt
namespace Go.Proofs.YtlhmkfcbldghfaaGreatDoor
set_option linter.all false
open Go Go.ChangeShapes Go.WideShapes Go.ChangeAt Go.RowKit
theorem star : "*" ++ "errors.errorString" = "*errors.errorString" := by decide
theorem row_err (u : TypeId) (h : Tryz.prog.typeName? 3 u = some "*errors.errorString") : u = 300 :=
 typeName_ptr_named (nm := "errors.errorString") (by rw [star]; kernel_rfl) (by kernel_rfl) (by decide) u (by rw [star]; exact h)
theorem g_errT : (Tryz.prog.globals[3]?).map (·.type) = some 206 := by kernel_rfl
theorem space_tab : (Rows.laid_strings_asciiSpace : DataW Unit) = Lib.tabData .u8 Lib.asciiSpaceTab := by kernel_rfl
theorem gs_of_laid {W : World} (h : laidMetH Tryz.prog Rows.treeSpreadRow.laid W) : Gs W := by
 rw [MakeChecks.laidMetH_plain _ _ _ (by kernel_rfl)] at h
 have h3 : laidMet Tryz.prog [("strconv.ErrRange", Rows.laid_strconv_ErrRange), ("strconv.ErrSyntax", Rows.laid_strconv_ErrSyntax), ("unicode.White_Space", Rows.laid_unicode_White_Space), ("strings.asciiSpace", Rows.laid_strings_asciiSpace)] W := (laidMet.tail (laidMet.tail (laidMet.tail h)))
 have h7 : laidMet Tryz.prog [("strings.asciiSpace", Rows.laid_strings_asciiSpace)] W := laidMet.tail (laidMet.tail (laidMet.tail h3))
 rw [space_tab] at h7
 obtain ⟨a, s, hv, _⟩ := laid_sentinel h3 g_err g_errT Tryz.underlying206 row_err Tryz.underlying300 Tryz.underlying302 rfl rfl Tryz.underlying9 (by kernel_rfl) (by kernel_rfl)
 exact ⟨Lib.tabIs_of_head g_tab (by kernel_rfl) Tryz.underlying201 Tryz.underlying5 (by kernel_rfl) (by kernel_rfl) h7, _, hv, .inr ⟨_, _, rfl⟩⟩
theorem door_met (os : Os) (args : Array Value) : laidMetH Tryz.prog Rows.treeSpreadRow.laid ((World.doorLaid Tryz.prog 96 os).forCall (fun _ _ => 0) ⟨#[], args, []⟩).memory :=
 laidMetH_of_parts3 (fuel := 8) (laidMet_of_run' 8 (by kernel_rfl) (by kernel_rfl)) (by kernel_rfl) (by kernel_rfl)
end Go.Proofs.YtlhmkfcbldghfaaGreatDoor
