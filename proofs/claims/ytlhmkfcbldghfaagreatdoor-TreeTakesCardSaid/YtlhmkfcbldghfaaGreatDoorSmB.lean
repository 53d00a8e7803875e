/- Laws of drawn regions in short: an operation that only reads comes first;what is stored leaves the rest. No program in sight. Conditions: none. -/
import Derived.Test.YtlhmkfcbldghfaaGreatDoorSmA
import Derived.Test.YtlhmkfcbldghfaaGreatDoorRegX
import Derived.Test.YtlhmkfcbldghfaaGreatDoorTwX
import Derived.Deep.CutRange
namespace Go.Proofs.YtlhmkfcbldghfaaGreatDoor
set_option linter.all false
open Go.RowKit
namespace Fr
open Da Tr
theorem row3{w:World}{P:Nat→Prop}{cs:List Value}{d0 d1 d2:D}(h:Row w P cs [d0,d1,d2]):∃ c0 c1 c2:Value,cs=[c0,c1,c2]∧Is w P c0 d0∧Is w P c1 d1∧Is w P c2 d2:=by
 obtain⟨c0,_,rfl,h0,h⟩:=row_inv h
 obtain⟨c1,_,rfl,h1,h⟩:=row_inv h
 obtain⟨c2,_,rfl,h2,h⟩:=row_inv h
 obtain rfl:=row_inv0 h
 exact⟨c0,c1,c2,rfl,h0,h1,h2⟩
theorem row6{w:World}{P:Nat→Prop}{cs:List Value}{d0 d1 d2 d3 d4 d5:D}(h:Row w P cs [d0,d1,d2,d3,d4,d5]):∃ c0 c1 c2 c3 c4 c5:Value,cs=[c0,c1,c2,c3,c4,c5]∧Is w P c0 d0∧Is w P c1 d1∧Is w P c2 d2∧Is w P c3 d3∧Is w P c4 d4∧Is w P c5 d5:=by
 obtain⟨c0,_,rfl,h0,h⟩:=row_inv h
 obtain⟨c1,_,rfl,h1,h⟩:=row_inv h
 obtain⟨c2,_,rfl,h2,h⟩:=row_inv h
 obtain⟨c3,_,rfl,h3,h⟩:=row_inv h
 obtain⟨c4,_,rfl,h4,h⟩:=row_inv h
 obtain⟨c5,_,rfl,h5,h⟩:=row_inv h
 obtain rfl:=row_inv0 h
 exact⟨c0,c1,c2,c3,c4,c5,rfl,h0,h1,h2,h3,h4,h5⟩
theorem row9{w:World}{P:Nat→Prop}{cs:List Value}{d0 d1 d2 d3 d4 d5 d6 d7 d8:D}(h:Row w P cs [d0,d1,d2,d3,d4,d5,d6,d7,d8]):∃ c0 c1 c2 c3 c4 c5 c6 c7 c8:Value,cs=[c0,c1,c2,c3,c4,c5,c6,c7,c8]∧Is w P c0 d0∧Is w P c1 d1∧Is w P c2 d2∧Is w P c3 d3∧Is w P c4 d4∧Is w P c5 d5∧Is w P c6 d6∧Is w P c7 d7∧Is w P c8 d8:=by
 obtain⟨c0,_,rfl,h0,h⟩:=row_inv h
 obtain⟨c1,_,rfl,h1,h⟩:=row_inv h
 obtain⟨c2,_,rfl,h2,h⟩:=row_inv h
 obtain⟨c3,_,rfl,h3,h⟩:=row_inv h
 obtain⟨c4,_,rfl,h4,h⟩:=row_inv h
 obtain⟨c5,_,rfl,h5,h⟩:=row_inv h
 obtain⟨c6,_,rfl,h6,h⟩:=row_inv h
 obtain⟨c7,_,rfl,h7,h⟩:=row_inv h
 obtain⟨c8,_,rfl,h8,h⟩:=row_inv h
 obtain rfl:=row_inv0 h
 exact⟨c0,c1,c2,c3,c4,c5,c6,c7,c8,rfl,h0,h1,h2,h3,h4,h5,h6,h7,h8⟩
theorem row10{w:World}{P:Nat→Prop}{cs:List Value}{d0 d1 d2 d3 d4 d5 d6 d7 d8 d9:D}(h:Row w P cs [d0,d1,d2,d3,d4,d5,d6,d7,d8,d9]):∃ c0 c1 c2 c3 c4 c5 c6 c7 c8 c9:Value,cs=[c0,c1,c2,c3,c4,c5,c6,c7,c8,c9]∧Is w P c0 d0∧Is w P c1 d1∧Is w P c2 d2∧Is w P c3 d3∧Is w P c4 d4∧Is w P c5 d5∧Is w P c6 d6∧Is w P c7 d7∧Is w P c8 d8∧Is w P c9 d9:=by
 obtain⟨c0,_,rfl,h0,h⟩:=row_inv h
 obtain⟨c1,_,rfl,h1,h⟩:=row_inv h
 obtain⟨c2,_,rfl,h2,h⟩:=row_inv h
 obtain⟨c3,_,rfl,h3,h⟩:=row_inv h
 obtain⟨c4,_,rfl,h4,h⟩:=row_inv h
 obtain⟨c5,_,rfl,h5,h⟩:=row_inv h
 obtain⟨c6,_,rfl,h6,h⟩:=row_inv h
 obtain⟨c7,_,rfl,h7,h⟩:=row_inv h
 obtain⟨c8,_,rfl,h8,h⟩:=row_inv h
 obtain⟨c9,_,rfl,h9,h⟩:=row_inv h
 obtain rfl:=row_inv0 h
 exact⟨c0,c1,c2,c3,c4,c5,c6,c7,c8,c9,rfl,h0,h1,h2,h3,h4,h5,h6,h7,h8,h9⟩
theorem row13{w:World}{P:Nat→Prop}{cs:List Value}{d0 d1 d2 d3 d4 d5 d6 d7 d8 d9 d10 d11 d12:D}(h:Row w P cs [d0,d1,d2,d3,d4,d5,d6,d7,d8,d9,d10,d11,d12]):∃ c0 c1 c2 c3 c4 c5 c6 c7 c8 c9 c10 c11 c12:Value,cs=[c0,c1,c2,c3,c4,c5,c6,c7,c8,c9,c10,c11,c12]∧Is w P c0 d0∧Is w P c1 d1∧Is w P c2 d2∧Is w P c3 d3∧Is w P c4 d4∧Is w P c5 d5∧Is w P c6 d6∧Is w P c7 d7∧Is w P c8 d8∧Is w P c9 d9∧Is w P c10 d10∧Is w P c11 d11∧Is w P c12 d12:=by
 obtain⟨c0,_,rfl,h0,h⟩:=row_inv h
 obtain⟨c1,_,rfl,h1,h⟩:=row_inv h
 obtain⟨c2,_,rfl,h2,h⟩:=row_inv h
 obtain⟨c3,_,rfl,h3,h⟩:=row_inv h
 obtain⟨c4,_,rfl,h4,h⟩:=row_inv h
 obtain⟨c5,_,rfl,h5,h⟩:=row_inv h
 obtain⟨c6,_,rfl,h6,h⟩:=row_inv h
 obtain⟨c7,_,rfl,h7,h⟩:=row_inv h
 obtain⟨c8,_,rfl,h8,h⟩:=row_inv h
 obtain⟨c9,_,rfl,h9,h⟩:=row_inv h
 obtain⟨c10,_,rfl,h10,h⟩:=row_inv h
 obtain⟨c11,_,rfl,h11,h⟩:=row_inv h
 obtain⟨c12,_,rfl,h12,h⟩:=row_inv h
 obtain rfl:=row_inv0 h
 exact⟨c0,c1,c2,c3,c4,c5,c6,c7,c8,c9,c10,c11,c12,rfl,h0,h1,h2,h3,h4,h5,h6,h7,h8,h9,h10,h11,h12⟩
section
variable {P:Program} {ops:Array Oper} {rest:List Oper} {Q:Exit→Act→World→Prop} {K:Act→World→Prop} {a:Act} {w W X:World} {g:Option Nat} {Kp:World→Prop} {R:List RI} {Ds:List (Value × D)} {o:Oper}
theorem wl_want{T:Op}{dst:Option Tmp}{ty:TypeId}{pos:String}{after:Array Edge}{gd:Nat × Bool}(hw:Region.wanted { dst:=dst,op:=T,type:=ty,pos:=pos,after:=after,guard:=some gd } (yielded ops a.tmps)=true)
  (h:wpList P ops Q ({ dst:=dst,op:=T,type:=ty,pos:=pos,after:=after,guard:=none }::rest) a W):wpList P ops Q ({ dst:=dst,op:=T,type:=ty,pos:=pos,after:=after,guard:=some gd }::rest) a W:=by
 unfold wpList at h ⊢
 rw [if_pos hw]
 rw [if_pos (by rfl)]at h
 exact h
end
section
variable {P:Program} {ops:Array Oper} {rest:List Oper} {Q:Exit→Act→World→Prop} {a:Act} {W:World} {dst:Option Tmp} {ty:TypeId} {pos:String} {after:Array Edge} {gd:Nat × Bool}
theorem is_loadW{T:TypeId}{x:Operand}(h:wpList P ops Q ({ dst:=dst,op:=.load T x,type:=ty,pos:=pos,after:=after,guard:=some gd }::rest) a W):wpList P ops Q ({ dst:=dst,op:=.load T x,type:=ty,pos:=pos,after:=after,guard:=some gd }::rest) a W:=h
end
end Fr
end Go.Proofs.YtlhmkfcbldghfaaGreatDoor
