/- The law ConsoleBytes walked: any bytes come through a line into a file and into a run's input. Conditions: the library's variables are as they were laid. -/
import Derived.Test.YthkegfdijohpaaaGreatDoorCoB
namespace Go.Proofs.YthkegfdijohpaaaGreatDoor
set_option linter.all false
open Go.Lib (hid)
set_option maxRecDepth 1000000
set_option maxHeartbeats 16000000
open Go.RowKit
namespace Cn
theorem write_len(t:List UInt8):(buildC ⟨1,[65,46,77,111,100],t,0,0,0⟩).length=12+(if t.length<1 then 1 else 2 * t.length):=by
 show(kWrite++32::([65,46,77,111,100]++32::hexC t)).length=_
 have h:=hex_len t
 simp only [kWrite,List.length_append,List.length_cons,List.length_nil,h]
 cases t with
 | nil=>rfl
 | cons a b=>simp;omega
theorem line_of_parse{c:Cm}(h:parseC (buildC c)=some c):lineO c=(buildC c,0):=by unfold lineO lineC;rw [if_pos h]
end Cn
theorem bytes_walk(s W R:ByteArray)(w:World)(HG:Hid (Gc w))(HW:Hid (∀ u,Gc u→Calls Tryz.prog 7 #[] u fun e w'=>e=.returned (.bool true)∧∃ g,w'=more u g))(s1:(s.size:Int)≤3000)
  (hs:(s.size=0∧(W.size:Int)=13)∨((1:Int)≤(s.size:Int)∧(W.size:Int)=12+2 * (s.size:Int)))
  (H1:Hid (LineA (.agg #[.int .i64 1,.string ⟨#[65,46,77,111,100]⟩,.string s,.int .i64 0,.int .i64 0,.int .i64 0]) W 0)) (H2:Hid (LineA (.agg #[.int .i64 5,.string ⟨#[]⟩,.string s,.int .i64 7,.int .i64 0,.int .i64 0]) R 0)) (H3:Hid (ParseA W (.agg #[.int .i64 1,.string ⟨#[65,46,77,111,100]⟩,.string s,.int .i64 0,.int .i64 0,.int .i64 0]) 0)) (H4:Hid (ParseA R (.agg #[.int .i64 5,.string ⟨#[]⟩,.string s,.int .i64 7,.int .i64 0,.int .i64 0]) 0)) :
  Calls Tryz.prog 6 #[.string s] w fun e w'=>e=.returned (.bool true)∧Below w.heap.size w w':=by
 rcases hs with⟨h0,h1⟩|⟨h0,h1⟩
 ·have h2:(s.size:Int)=0:=by omega
  have hm:max (1:Int) 0=1:=by decide
  clear h0
  go_enter Tryz.func6,Tryz.ntmps6
  go_wp2_with (first|(go_at_call 11;first|((with_reducible refine(H1.out _ (HG.out.below bT)).mono ?_);rintro e w2 ⟨rfl,g2,rfl⟩)|((with_reducible refine(H2.out _ (HG.out.below bT)).mono ?_);rintro e w3 ⟨rfl,g3,rfl⟩))|(go_at_call 8;first|((with_reducible refine(H3.out _ (HG.out.below bT)).mono ?_);rintro e w4 ⟨rfl,g4,rfl⟩)|((with_reducible refine(H4.out _ (HG.out.below bT)).mono ?_);rintro e w5 ⟨rfl,g5,rfl⟩))|(go_at_call 7;(with_reducible refine(HW.out _ (HG.out.below bT)).mono ?_);rintro e w9 ⟨rfl,g9,rfl⟩))
  go_ret
  exact⟨rfl,bT⟩
 ·have hm:max (1:Int) (2 * (s.size:Int))=2 * (s.size:Int):=by omega
  go_enter Tryz.func6,Tryz.ntmps6
  go_wp2_with (first|(go_at_call 11;first|((with_reducible refine(H1.out _ (HG.out.below bT)).mono ?_);rintro e w2 ⟨rfl,g2,rfl⟩)|((with_reducible refine(H2.out _ (HG.out.below bT)).mono ?_);rintro e w3 ⟨rfl,g3,rfl⟩))|(go_at_call 8;first|((with_reducible refine(H3.out _ (HG.out.below bT)).mono ?_);rintro e w4 ⟨rfl,g4,rfl⟩)|((with_reducible refine(H4.out _ (HG.out.below bT)).mono ?_);rintro e w5 ⟨rfl,g5,rfl⟩))|(go_at_call 7;(with_reducible refine(HW.out _ (HG.out.below bT)).mono ?_);rintro e w9 ⟨rfl,g9,rfl⟩))
  go_ret
  exact⟨rfl,bT⟩
theorem ConsoleBytes_any(s:ByteArray)(w:World)(hg:Gc w):Calls Tryz.prog 6 #[.string s] w fun e w'=>e=.returned (.bool true)∧Below w.heap.size w w':=by
 have HG:=hid hg
 have HW:=hid (fun u hu=>wakes29_any u hu)
 by_cases hs:s.size≤3000
 ·have hsl:s.data.toList.length=s.size:=(Cn.size_of rfl).symm
  have hw:=Cn.write_parse [65,46,77,111,100] s.data.toList (by decide)
  have hr:=Cn.run_parse 7 s.data.toList (by decide) (by decide)
  have ok1:Cn.CmOk ⟨1,[65,46,77,111,100],s.data.toList,0,0,0⟩:=⟨by simp,by simp only;omega,by simp,by simp,by simp⟩
  have ok2:Cn.CmOk ⟨5,[],s.data.toList,7,0,0⟩:=⟨by simp,by simp only;omega,by simp,by simp,by simp⟩
  have hl:=Cn.write_len s.data.toList
  have HA:∀ u,Gc u→_:=fun u hu=>cLine_any _ ok1 u hu
  have HB:∀ u,Gc u→_:=fun u hu=>cLine_any _ ok2 u hu
  have HC:∀ u,Gc u→_:=fun u hu=>cParse_any ⟨(Cn.buildC ⟨1,[65,46,77,111,100],s.data.toList,0,0,0⟩).toArray⟩ u hu (by have:=Cn.build_len _ ok1;rw [Cn.sz_mk];omega)
  have HD:∀ u,Gc u→_:=fun u hu=>cParse_any ⟨(Cn.buildC ⟨5,[],s.data.toList,7,0,0⟩).toArray⟩ u hu (by have:=Cn.build_len _ ok2;rw [Cn.sz_mk];omega)
  simp only [Cn.LineIs,Cn.line_of_parse hw,Cn.cm,Cn.bytes_self]at HA
  simp only [Cn.LineIs,Cn.line_of_parse hr,Cn.cm,Cn.bytes_self]at HB
  simp only [Cn.parseO_some hw,Cn.cm,Cn.bytes_self]at HC
  simp only [Cn.parseO_some hr,Cn.cm,Cn.bytes_self]at HD
  refine bytes_walk s _ _ w HG HW (by omega) ?_ (hid HA) (hid HB) (hid HC) (hid HD)
  have hz:(⟨(Cn.buildC ⟨1,[65,46,77,111,100],s.data.toList,0,0,0⟩).toArray⟩:ByteArray).size=(Cn.buildC ⟨1,[65,46,77,111,100],s.data.toList,0,0,0⟩).length:=Cn.sz_mk _
  rw [hz,hl,hsl]
  split
  ·exact .inl ⟨by omega,by omega⟩
  ·exact .inr ⟨by omega,by omega⟩
 ·have s1:(3000:Int)<(s.size:Int):=by omega
  clear hs hg
  go_enter Tryz.func6,Tryz.ntmps6
  go_wp2_with (go_at_call 7;(with_reducible refine(HW.out _ (HG.out.below bT)).mono ?_);rintro e w5 ⟨rfl,g5,rfl⟩)
  go_ret
  exact⟨rfl,bT⟩
end Go.Proofs.YthkegfdijohpaaaGreatDoor
