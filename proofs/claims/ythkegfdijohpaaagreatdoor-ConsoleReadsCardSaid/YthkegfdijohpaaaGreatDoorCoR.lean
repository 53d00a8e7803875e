/- The law ConsoleReads walked: the command of every line,or that it is none. Conditions: the library's variables are as they were laid. -/
import Derived.Test.YthkegfdijohpaaaGreatDoorCnZ
import Derived.Test.YthkegfdijohpaaaGreatDoorCnO
namespace Go.Proofs.YthkegfdijohpaaaGreatDoor
set_option linter.all false
open Go.Lib (hid)
set_option maxRecDepth 1000000
set_option maxHeartbeats 16000000
open Go.RowKit
theorem ConsoleReads_any(s:ByteArray)(w:World)(hg:Gc w):Calls Tryz.prog 3 #[.string s] w fun e w'=>e=.returned (.bool true)∧Below w.heap.size w w':=by
 have HG:=hid hg
 have HW:=hid (fun u hu=>wakes29_any u hu)
 clear hg
 by_cases hs:s.size≤40000
 ·have hs1:(s.size:Int)≤40000:=by omega
  have HP:=hid (fun u hu=>cParse_any s u hu (by omega))
  have HR:=hid (fun u=>rParse_any s u (by omega))
  generalize Cn.parseO s.data.toList=q at HP HR
  obtain⟨⟨o,n,t,f,x,y⟩,er⟩:=q
  have HS:=hid (fun u=>same_any ⟨o,n,t,f,x,y⟩ ⟨o,n,t,f,x,y⟩ u)
  rw [decide_eq_true rfl]at HS
  simp only [Cn.cm]at HP HR HS
  clear hs
  go_enter Tryz.func3,Tryz.ntmps3
  go_wp2_with (first|(go_at_call 8;(with_reducible refine(HP.out _ (HG.out.below bT)).mono ?_);rintro e w2 ⟨rfl,g2,rfl⟩)|(go_at_call 9;(with_reducible refine(HR.out _).mono ?_);rintro e w3 ⟨rfl,g3,rfl⟩)|(go_at_call 10;(with_reducible refine(HS.out _).mono ?_);rintro e w4 ⟨rfl,g4,rfl⟩)|(go_at_call 7;(with_reducible refine(HW.out _ (HG.out.below bT)).mono ?_);rintro e w5 ⟨rfl,g5,rfl⟩))
  go_ret
  exact⟨rfl,bT⟩
 ·have hs1:(40000:Int)<(s.size:Int):=by omega
  clear hs
  go_enter Tryz.func3,Tryz.ntmps3
  go_wp2_with (go_at_call 7;(with_reducible refine(HW.out _ (HG.out.below bT)).mono ?_);rintro e w5 ⟨rfl,g5,rfl⟩)
  go_ret
  exact⟨rfl,bT⟩
end Go.Proofs.YthkegfdijohpaaaGreatDoor
