/- Closed facts of the program that the rows share: maps,stops,what may be entered. Conditions: none. -/
import Derived.Test.YthkegfdijohpaaaGreatDoorRows
import Derived.Test.YthkegfdijohpaaaGreatDoorFxP
import Derived.KernelRfl
namespace Go.Proofs.YthkegfdijohpaaaGreatDoor
set_option linter.all false
open Go
theorem fx_maps:mapsRowed Tryz.prog=true:=by kernel_rfl
theorem fx_stops:(Tryz.prog.stops == [])=true:=by kernel_rfl
theorem fx_knobs:(Tryz.prog.stopKnobs == [])=true:=by kernel_rfl
theorem fx_keys:Tryz.prog.plainKeys=false:=by kernel_rfl
theorem fx_heard:Tryz.prog.stopsHeard=true:=by kernel_rfl
theorem fx_enter:Tryz.prog.mayEnter=true:=by kernel_rfl
theorem fx_lifts:Tryz.prog.liftsFinal=Rows.consoleReadsRow.lifted:=by kernel_rfl
theorem fx_make:(Tryz.prog.make == some Rows.consoleReadsRow.make)=true:=by kernel_rfl
theorem fx_goes:Tryz.prog.funcs.toList.any Func.goes=false:=by kernel_rfl
end Go.Proofs.YthkegfdijohpaaaGreatDoor
