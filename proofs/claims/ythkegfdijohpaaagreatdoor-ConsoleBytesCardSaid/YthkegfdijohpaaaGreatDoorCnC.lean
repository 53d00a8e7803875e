/- The library's builder and IndexByte,as the package console calls them: their contracts at this program. Conditions: as the library's. -/
import Derived.Test.YthkegfdijohpaaaGreatDoorCnX
import Derived.Test.YthkegfdijohpaaaGreatDoorBdW
import Derived.Test.YthkegfdijohpaaaGreatDoorMoreX
import Derived.Test.YthkegfdijohpaaaGreatDoorAppendW
import Derived.Test.YthkegfdijohpaaaGreatDoorChecked
import Derived.Lib.Hide
namespace Go.Proofs.YthkegfdijohpaaaGreatDoor
set_option linter.all false
open Go.RowKit
theorem cwbyte_any(B b:Nat)(bs:List Value)(c:Int)(w:World)(h:Lib.IsBuilder 70 5 B b bs w)(hlen:bs.length+1≤140737488355328)(hBw:B≤w.heap.size) :
  Calls Tryz.prog 34 #[.pointer (some ⟨b,0,none⟩),.int .u8 c] w fun e w'=>e=.returned .nilIface∧(Lib.BuilderAt 70 5 B b (.pointer (some ⟨b,0,none⟩)) (bs++[.int .u8 c]) w'∧Below B w w'):=
 wbyte_any B b bs c w h hlen hBw
theorem cbstring_any(B b:Nat)(l:List UInt8)(w:World)(h:Lib.IsBuilder 70 5 B b (Lib.byteCells l) w)(hBw:B≤w.heap.size) :
  Calls Tryz.prog 35 #[.pointer (some ⟨b,0,none⟩)] w fun e w'=>e=.returned (.string ⟨l.toArray⟩)∧Below B w w':=Tryz.Builder_String_any B b l w h hBw
theorem cix_any(c:UInt8)(w:World):Calls Tryz.prog 49 #[.string Cn.dg,.int .u8 (c.toNat:Int)] w fun e w'=>e=.returned (.int .i64 (Cn.ixD c))∧w'=w:=by
 have:=Tryz.strings_IndexByte Cn.dg (c.toNat:Int) w
 rw [show((c.toNat:Int)).toNat.toUInt8=c by simp,Cn.ix_at c]at this
 exact this
namespace Cn
theorem ql{P:Program}{f:FuncId}{args:Array Value}{w:World}{n:Nat}{v:Value}(h:Calls P f args (w.drewN n) fun e w'=>e=.returned v∧w'=w.drewN n):Calls P f args (w.drewN n) fun e w''=>e=.returned v∧∃ m,w''=w.drewN m:=
 h.mono fun _ _ ⟨he,hm⟩=>⟨he,n,hm⟩
theorem ql2{P:Program}{f:FuncId}{args:Array Value}{w:World}{a n:Nat}{v:Value}(h:Calls P f args (w.drewN (a+n)) fun e w'=>e=.returned v∧w'=w.drewN (a+n)):Calls P f args (w.drewN (a+n)) fun e w''=>e=.returned v∧∃ m,w''=w.drewN (a+m):=
 h.mono fun _ _ ⟨he,hm⟩=>⟨he,n,hm⟩
theorem isb_below{T e:TypeId}{B b:Nat}{bs:List Value}{w w':World}(h:Lib.IsBuilder T e B b bs w)(hb:Below w.heap.size w w'):Lib.IsBuilder T e B b bs w':=by
 have:∀ p,Lib.BuilderAt T e B b p bs w→Lib.BuilderAt T e B b p bs w':=fun p h=>by
  obtain⟨h1,v,h2,h3,h4⟩:=h
  exact⟨h1,v,(hb.block _ (Array.getElem?_eq_some_iff.1 h2).1).trans h2,(h3.kept (row:=none) ⟨hb.os,hb.tape,hb.output,hb.size,fun k hk _=>hb.block k hk⟩ (by cases hv:v.ownBlock <;> simp)),h4⟩
 rcases h with h|h
 ·exact .inl (this _ h)
 ·exact .inr (this _ h)
theorem isb_at{T e:TypeId}{B b:Nat}{bs:List Value}{w:World}(h:Lib.BuilderAt T e B b (.pointer (some ⟨b,0,none⟩)) bs w):Lib.IsBuilder T e B b bs w:=Or.inr h
structure BSt(w0 wr:World)(bb:Nat)(l:List UInt8):Prop where
 bd:Lib.IsBuilder 70 5 bb bb (Lib.byteCells l) wr
 bel:Below bb w0 wr
 sz:bb≤wr.heap.size
end Cn
end Go.Proofs.YthkegfdijohpaaaGreatDoor
