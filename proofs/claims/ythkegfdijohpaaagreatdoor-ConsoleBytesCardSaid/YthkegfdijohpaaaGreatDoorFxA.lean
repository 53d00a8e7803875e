/- Closed facts of the program that the rows share: its types are laid out,part one. Conditions: none. -/
import Derived.Test.YthkegfdijohpaaaGreatDoorChecked
import Derived.Test.YthkegfdijohpaaaGreatDoorFxP
import Derived.KernelRfl
namespace Go.Proofs.YthkegfdijohpaaaGreatDoor
set_option linter.all false
open Go
theorem fx_row0:(((List.range 749).drop (50 * 0)).take 50).all (rowFine Tryz.prog)=true:=by kernel_rfl
theorem fx_row1:(((List.range 749).drop (50 * 1)).take 50).all (rowFine Tryz.prog)=true:=by kernel_rfl
theorem fx_row2:(((List.range 749).drop (50 * 2)).take 50).all (rowFine Tryz.prog)=true:=by kernel_rfl
theorem fx_row3:(((List.range 749).drop (50 * 3)).take 50).all (rowFine Tryz.prog)=true:=by kernel_rfl
theorem fx_row4:(((List.range 749).drop (50 * 4)).take 50).all (rowFine Tryz.prog)=true:=by kernel_rfl
theorem fx_row5:(((List.range 749).drop (50 * 5)).take 50).all (rowFine Tryz.prog)=true:=by kernel_rfl
theorem fx_row6:(((List.range 749).drop (50 * 6)).take 50).all (rowFine Tryz.prog)=true:=by kernel_rfl
theorem fx_row7:(((List.range 749).drop (50 * 7)).take 50).all (rowFine Tryz.prog)=true:=by kernel_rfl
end Go.Proofs.YthkegfdijohpaaaGreatDoor
