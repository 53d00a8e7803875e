/- The law ConsoleLines walked: the line of every command,or why it has none. Conditions: the library's variables are as they were laid;the command's numbers are of their type. -/
import Derived.Test.YthkegfdijohpaaaGreatDoorCnZ
import Derived.Test.YthkegfdijohpaaaGreatDoorCnS
namespace Go.Proofs.YthkegfdijohpaaaGreatDoor
set_option linter.all false
open Go.Lib (hid)
set_option maxRecDepth 1000000
set_option maxHeartbeats 16000000
open Go.RowKit
namespace Cn
theorem bytes_self(N:ByteArray):(⟨N.data.toList.toArray⟩:ByteArray)=N:=by apply ByteArray.ext;simp
theorem cm_self(op:Int)(N T:ByteArray)(z1 z2 z3:Int):cm ⟨op,N.data.toList,T.data.toList,z1,z2,z3⟩=.agg #[.int .i64 op,.string N,.string T,.int .i64 z1,.int .i64 z2,.int .i64 z3]:=by unfold cm;simp only [bytes_self]
end Cn
theorem ConsoleLines_any(op:Int)(N T:ByteArray)(z1 z2 z3:Int)(w:World)(hg:Gc w)(b1 : -9223372036854775808≤z1∧z1≤9223372036854775807)(b2 : -9223372036854775808≤z2∧z2≤9223372036854775807)(b3 : -9223372036854775808≤z3∧z3≤9223372036854775807) :
  Calls Tryz.prog 4 #[.agg #[.int .i64 op,.string N,.string T,.int .i64 z1,.int .i64 z2,.int .i64 z3]] w fun e w'=>e=.returned (.bool true)∧Below w.heap.size w w':=by
 have HG:=hid hg
 have HW:=hid (fun u hu=>wakes29_any u hu)
 clear hg
 by_cases hn:N.size≤40000
 ·by_cases ht:T.size≤40000
  ·have n1:(N.size:Int)≤40000:=by omega
   have t1:(T.size:Int)≤40000:=by omega
   have ok:Cn.CmOk ⟨op,N.data.toList,T.data.toList,z1,z2,z3⟩:=⟨by show N.data.toList.length≤40000;rw [← Cn.size_of rfl];exact hn,by show T.data.toList.length≤40000;rw [← Cn.size_of rfl];exact ht,b1,b2,b3⟩
   have HC:=fun u hu=>cLine_any _ ok u hu
   have HR:=fun u=>rLine_any _ ok u
   clear ok
   generalize Cn.lineO ⟨op,N.data.toList,T.data.toList,z1,z2,z3⟩=q at HC HR
   obtain⟨s,er⟩:=q
   simp only [Cn.LineIs,Cn.cm_self]at HC HR
   generalize (⟨s.toArray⟩:ByteArray)=S at HC HR
   replace HC:=hid HC
   replace HR:=hid HR
   clear hn ht
   go_enter Tryz.func4,Tryz.ntmps4
   go_wp2_with (first|(go_at_call 11;(with_reducible refine(HC.out _ (HG.out.below bT)).mono ?_);rintro e w2 ⟨rfl,g2,rfl⟩)|(go_at_call 12;(with_reducible refine(HR.out _).mono ?_);rintro e w3 ⟨rfl,g3,rfl⟩)|(go_at_call 7;(with_reducible refine(HW.out _ (HG.out.below bT)).mono ?_);rintro e w5 ⟨rfl,g5,rfl⟩))
   go_ret
   exact⟨rfl,bT⟩
  ·have n1:(N.size:Int)≤40000:=by omega
   have t1:(40000:Int)<(T.size:Int):=by omega
   clear hn ht
   go_enter Tryz.func4,Tryz.ntmps4
   go_wp2_with (go_at_call 7;(with_reducible refine(HW.out _ (HG.out.below bT)).mono ?_);rintro e w5 ⟨rfl,g5,rfl⟩)
   go_ret
   exact⟨rfl,bT⟩
 ·have n1:(40000:Int)<(N.size:Int):=by omega
  clear hn
  go_enter Tryz.func4,Tryz.ntmps4
  go_wp2_with (go_at_call 7;(with_reducible refine(HW.out _ (HG.out.below bT)).mono ?_);rintro e w5 ⟨rfl,g5,rfl⟩)
  go_ret
  exact⟨rfl,bT⟩
end Go.Proofs.YthkegfdijohpaaaGreatDoor
