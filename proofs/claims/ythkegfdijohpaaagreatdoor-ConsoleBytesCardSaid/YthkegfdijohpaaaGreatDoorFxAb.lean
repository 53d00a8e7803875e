/- Closed facts of the program that the rows share: its types are laid out,part two. Conditions: none. -/
import Derived.Test.YthkegfdijohpaaaGreatDoorChecked
import Derived.Test.YthkegfdijohpaaaGreatDoorFxP
import Derived.KernelRfl
namespace Go.Proofs.YthkegfdijohpaaaGreatDoor
set_option linter.all false
open Go
theorem fx_row8:(((List.range 749).drop (50 * 8)).take 50).all (rowFine Tryz.prog)=true:=by kernel_rfl
theorem fx_row9:(((List.range 749).drop (50 * 9)).take 50).all (rowFine Tryz.prog)=true:=by kernel_rfl
theorem fx_row10:(((List.range 749).drop (50 * 10)).take 50).all (rowFine Tryz.prog)=true:=by kernel_rfl
theorem fx_row11:(((List.range 749).drop (50 * 11)).take 50).all (rowFine Tryz.prog)=true:=by kernel_rfl
theorem fx_row12:(((List.range 749).drop (50 * 12)).take 50).all (rowFine Tryz.prog)=true:=by kernel_rfl
theorem fx_row13:(((List.range 749).drop (50 * 13)).take 50).all (rowFine Tryz.prog)=true:=by kernel_rfl
theorem fx_row14:(((List.range 749).drop (50 * 14)).take 50).all (rowFine Tryz.prog)=true:=by kernel_rfl
end Go.Proofs.YthkegfdijohpaaaGreatDoor
