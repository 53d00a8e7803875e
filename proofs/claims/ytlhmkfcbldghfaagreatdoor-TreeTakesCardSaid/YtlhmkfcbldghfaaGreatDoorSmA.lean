/- Whether trees are alike,with places or without: plainly. Laws of operations that tell what of the world stays. No program in sight. Conditions: none. -/
import Derived.Test.YtlhmkfcbldghfaaGreatDoorFmX
import Derived.Test.YtlhmkfcbldghfaaGreatDoorTrB
namespace Go.Proofs.YtlhmkfcbldghfaaGreatDoor
set_option linter.all false
open Go.RowKit
namespace Tr
mutual
def exS(pl:Bool):Ex→Ex→Bool
 | .mk k n t o xs p,.mk k' n' t' o' xs' p'=>!(k != k') && !(n != n') && !(t != t') && !(o != o') && !(pl && (p != p')) && exsS pl xs xs'
def exsS(pl:Bool):List Ex→List Ex→Bool
 | [],[]=>true
 | e::es,f::fs=>exS pl e f && exsS pl es fs
 | [],_::_=>false
 | _::_,[]=>false
end
mutual
def tyS(pl:Bool):Ty→Ty→Bool
 | .mk k m n ls el ba fs ps rs p,.mk k' m' n' ls' el' ba' fs' ps' rs' p' =>
  !(k != k') && !(m != m') && !(n != n') && !(pl && (p != p')) && exsS pl ls ls' && tysS pl el el' && tysS pl ba ba' && fdsS pl ps ps' && tysS pl rs rs' && fdsS pl fs fs'
def tysS(pl:Bool):List Ty→List Ty→Bool
 | [],[]=>true
 | e::es,f::fs=>tyS pl e f && tysS pl es fs
 | [],_::_=>false
 | _::_,[]=>false
def fdsS(pl:Bool):List (List UInt8 × Bool × Ty × Int)→List (List UInt8 × Bool × Ty × Int)→Bool
 | [],[]=>true
 | (n,b,t,p)::es,(n',b',t',p')::fs=>!(n != n') && !(b != b') && !(pl && (p != p')) && tyS pl t t' && fdsS pl es fs
 | [],_::_=>false
 | _::_,[]=>false
end
end Tr
namespace Fr
open Da Tr
section
variable {P:Program} {Q:Exit→Act→World→Prop} {K:Act→World→Prop} {a:Act} {w W X:World} {g:Option Nat} {Kp:World→Prop} {R:List RI} {Ds:List (Value × D)} {o:Oper}
end
end Fr
namespace Tr
end Tr
end Go.Proofs.YtlhmkfcbldghfaaGreatDoor
