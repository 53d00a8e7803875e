/- What the rows' laid variables give the walks. Conditions: none. -/
import Derived.Test.YtlhmkfcbldghfaaDoorRows
import Derived.Test.YtlhmkfcbldghfaaDoorCards
import Derived.Test.YtlhmkfcbldghfaaDoorTie
import Derived.Test.YtlhmkfcbldghfaaDoorTkC
import Derived.ProofKit
import Derived.LaidMore
import Derived.OpenShut
import Derived.Stop.Joined
import Derived.Stop.LaidErr
import Derived.SevenTiedAt
namespace Go.Proofs.YtlhmkfcbldghfaaDoor
set_option linter.all false
open Go Go.ChangeShapes Go.WideShapes Go.ChangeAt Go.RowKit
theorem star : "*" ++ "errors.errorString" = "*errors.errorString" := by decide
theorem row_err (u : TypeId) (h : Tryd.prog.typeName? 3 u = some "*errors.errorString") : u = 177 :=
  typeName_ptr_named (nm := "errors.errorString") (by rw [star]; kernel_rfl) (by kernel_rfl) (by decide) u (by rw [star]; exact h)
theorem g_errT : (Tryd.prog.globals[3]?).map (·.type) = some 100 := by kernel_rfl
theorem space_tab : (Rows.laid_strings_asciiSpace : DataW Unit) = Lib.tabData .u8 Lib.asciiSpaceTab := by kernel_rfl
theorem gs_of_laid {W : World} (h : laidMetH Tryd.prog Rows.treePlacesRow.laid W) : Gs W := by
  rw [MakeChecks.laidMetH_plain _ _ _ (by kernel_rfl)] at h
  have h3 : laidMet Tryd.prog [("strconv.ErrRange", Rows.laid_strconv_ErrRange), ("strconv.ErrSyntax", Rows.laid_strconv_ErrSyntax), ("unicode.White_Space", Rows.laid_unicode_White_Space), ("strings.asciiSpace", Rows.laid_strings_asciiSpace)] W := (laidMet.tail (laidMet.tail (laidMet.tail h)))
  have h7 : laidMet Tryd.prog [("strings.asciiSpace", Rows.laid_strings_asciiSpace)] W := laidMet.tail (laidMet.tail (laidMet.tail h3))
  rw [space_tab] at h7
  obtain ⟨a, s, hv, _⟩ := laid_sentinel h3 g_err g_errT Tryd.underlying100 row_err Tryd.underlying177 Tryd.underlying179 rfl rfl Tryd.underlying9 (by kernel_rfl) (by kernel_rfl)
  exact ⟨Lib.tabIs_of_head g_tab (by kernel_rfl) Tryd.underlying95 Tryd.underlying5 (by kernel_rfl) (by kernel_rfl) h7, _, hv, .inr ⟨_, _, rfl⟩⟩
theorem door_met (os : Os) (args : Array Value) : laidMetH Tryd.prog Rows.treePlacesRow.laid ((World.doorLaid Tryd.prog 96 os).forCall (fun _ _ => 0) ⟨#[], args, []⟩).memory :=
  laidMetH_of_parts3 (fuel := 8) (laidMet_of_run' 8 (by kernel_rfl) (by kernel_rfl)) (by kernel_rfl) (by kernel_rfl)
end Go.Proofs.YtlhmkfcbldghfaaDoor
