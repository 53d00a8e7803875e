/- Closed facts of the program that the rows share. Conditions: none. -/
import Derived.Test.YthkegfdijohpaaaGreatDoorFxA
import Derived.Test.YthkegfdijohpaaaGreatDoorFxAb
namespace Go.Proofs.YthkegfdijohpaaaGreatDoor
set_option linter.all false
open Go
theorem fx_n:Tryz.prog.types.size=749:=by kernel_rfl
theorem fx_rows:(List.range 749).all (rowFine Tryz.prog)=true:=by
 refine Fx.all_chunks _ 50 15 _ (by simp) fun k hk=>?_
 match k,hk with
 | 0,_=>exact fx_row0
 | 1,_=>exact fx_row1
 | 2,_=>exact fx_row2
 | 3,_=>exact fx_row3
 | 4,_=>exact fx_row4
 | 5,_=>exact fx_row5
 | 6,_=>exact fx_row6
 | 7,_=>exact fx_row7
 | 8,_=>exact fx_row8
 | 9,_=>exact fx_row9
 | 10,_=>exact fx_row10
 | 11,_=>exact fx_row11
 | 12,_=>exact fx_row12
 | 13,_=>exact fx_row13
 | 14,_=>exact fx_row14
 | n+15,hk=>exact absurd hk (by omega)
theorem fx_glob:Tryz.prog.globals.toList.all (fun g=>decide (g.type<749))=true:=by kernel_rfl
theorem fx_par:Tryz.prog.funcs.toList.all (fun f=>f.params.all fun t=>decide (t<749))=true:=by kernel_rfl
theorem fx_laidOut:laidOutB Tryz.prog=true:=Fx.laidOut_of Tryz.prog 749 fx_n fx_rows fx_glob fx_par
end Go.Proofs.YthkegfdijohpaaaGreatDoor
