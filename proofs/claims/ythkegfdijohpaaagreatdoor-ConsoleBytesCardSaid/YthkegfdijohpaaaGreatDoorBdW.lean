/- The library's builder takes a byte: its contract at this program,out of the laying of Repeat. Conditions: as the library's. -/
import Derived.Test.YthkegfdijohpaaaGreatDoorShelf
import Derived.Shelf.Strings.Builder1
import Derived.Lib.Hide
namespace Go.Proofs.YthkegfdijohpaaaGreatDoor
set_option linter.all false
open Go.RowKit
def ren167:Go.Shelf.Ren:=⟨fun n=>if n=167 then 34 else Tryz.lays105_ren.f n,Tryz.lays105_ren.t,Tryz.lays105_ren.g⟩
theorem lay167:Go.Proofs.Lays.n167 Tryz.prog ren167:={
 mixed:=Tryz.lays105.mixed
 f167:=(Tryz.func34).trans (congrArg some (by kernel_rfl))
 f240:=Tryz.lays105.f240.trans (congrArg some (by kernel_rfl))
 f276:=Tryz.lays105.f276.trans (congrArg some (by kernel_rfl))
 t0:=Tryz.lays105.t0
 a0:=Tryz.lays105.a0
 z0:=Tryz.lays105.z0
 v0:=Tryz.lays105.v0
 t4:=Tryz.lays105.t4
 a4:=Tryz.lays105.a4
 z4:=Tryz.lays105.z4
 v4:=Tryz.lays105.v4
 t5:=Tryz.lays105.t5
 a5:=Tryz.lays105.a5
 z5:=Tryz.lays105.z5
 v5:=Tryz.lays105.v5
 t9:=Tryz.lays105.t9
 a9:=Tryz.lays105.a9
 z9:=Tryz.lays105.z9
 v9:=Tryz.lays105.v9
 t20:=Tryz.lays105.t20
 a20:=Tryz.lays105.a20
 z20:=Tryz.lays105.z20
 v20:=Tryz.lays105.v20
 t37:=Tryz.lays105.t37
 a37:=Tryz.lays105.a37
 z37:=Tryz.lays105.z37
 v37:=Tryz.lays105.v37
 t70:=Tryz.lays105.t70
 a70:=Tryz.lays105.a70
 z70:=Tryz.lays105.z70
 v70:=Tryz.lays105.v70
 t72:=Tryz.lays105.t72
 a72:=Tryz.lays105.a72
 z72:=Tryz.lays105.z72
 v72:=Tryz.lays105.v72
 t75:=Tryz.lays105.t75
 a75:=Tryz.lays105.a75
 z75:=Tryz.lays105.z75
 v75:=Tryz.lays105.v75
 t164:=Tryz.lays105.t164
 a164:=Tryz.lays105.a164
 z164:=Tryz.lays105.z164
 v164:=Tryz.lays105.v164 }
theorem extra167:Go.Proofs.Builder.Extra Tryz.prog ren167:={
 sizeBuilder:=by kernel_rfl
 liesBuilder:=by kernel_rfl
 t5:=Tryz.lays105.t5
 a5:=Tryz.lays105.a5
 z5:=Tryz.lays105.z5
 v5:=Tryz.lays105.v5
 infoByte:=by kernel_rfl
 cellsByte:=by kernel_rfl
 sizeByte:=by kernel_rfl
 neB5:=by decide }
theorem wbyte_any(B b:Nat)(bs:List Value)(c:Int)(w:World)(h:Lib.IsBuilder 70 5 B b bs w)(hlen:bs.length+1≤140737488355328)(hBw:B≤w.heap.size) :
  Calls Tryz.prog 34 #[.pointer (some ⟨b,0,none⟩),.int .u8 c] w fun e w'=>e=.returned .nilIface∧(Lib.BuilderAt 70 5 B b (.pointer (some ⟨b,0,none⟩)) (bs++[.int .u8 c]) w'∧Below B w w'):=
 Go.Proofs.Any.Builder_WriteByte lay167 extra167 B b bs c w h hlen hBw
end Go.Proofs.YthkegfdijohpaaaGreatDoor
