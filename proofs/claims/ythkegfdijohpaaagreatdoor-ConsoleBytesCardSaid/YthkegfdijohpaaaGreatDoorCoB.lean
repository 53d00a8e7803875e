/- The law ConsoleBack walked: what was written is read as the command that it was;what was read is written as it was. Conditions: the library's variables are as they were laid;the command's numbers are of their type. -/
import Derived.Test.YthkegfdijohpaaaGreatDoorCoL
namespace Go.Proofs.YthkegfdijohpaaaGreatDoor
set_option linter.all false
open Go.Lib (hid)
set_option maxRecDepth 1000000
set_option maxHeartbeats 16000000
open Go.RowKit
namespace Cn
theorem parse_ok{s:List UInt8}{c:Cm}(hs:s.length≤40000)(h:parseC s=some c):CmOk c:=by
 have hb:=parse_build h
 unfold parseC cmdW at h
 have tx:∀{t b:List UInt8},t∈cutW s→bytesC t=some b→b.length≤40000:=fun{t b} ht hb=>by
  have h1:=(cutW_le s).1 t ht
  have h2:=hex_len b
  rw [hex_bytes hb]at h2
  split at h2
  ·rename_i he;subst he;simp
  ·omega
 have nm:∀{n:List UInt8},nameC n=true→n.length≤40000:=fun{n} h=>by
  unfold nameC at h
  split at h
  ·cases h
  ·simp only [Bool.and_eq_true,decide_eq_true_eq]at h
   omega
 split at h
 ·split at h
  ·rename_i hk;simp at h;subst h;exact⟨nm hk.2,by simp,by simp,by simp,by simp⟩
  ·split at h
   ·rename_i hk;simp at h;subst h;exact⟨nm hk.2,by simp,by simp,by simp,by simp⟩
   ·cases h
 ·rename_i k n t hc
  split at h
  ·split at h
   ·rename_i b hbb
    split at h
    ·rename_i hnm
     simp at h;subst h;exact⟨nm hnm,tx (by rw [hc];simp) hbb,by simp,by simp,by simp⟩
    ·cases h
   ·cases h
  ·split at h
   ·split at h
    ·rename_i z b hz hbb
     have hz2:=num_ok hz
     simp at h;subst h;exact⟨by simp,tx (by rw [hc];simp) hbb,⟨by simp only;omega,by simp only;omega⟩,by simp,by simp⟩
    ·cases h
   ·cases h
 ·split at h
  ·rename_i hk
   split at h
   ·rename_i x y hx hy
    have hx2:=num_ok hx
    have hy2:=num_ok hy
    simp at h;subst h;exact⟨nm hk.2,by simp,by simp,⟨by simp only;omega,by simp only;omega⟩,⟨by simp only;omega,by simp only;omega⟩⟩
   ·cases h
  ·cases h
 ·cases h
theorem parseO_some{s:List UInt8}{c:Cm}(h:parseC s=some c):parseO s=(c,0):=by unfold parseO;rw [h]
theorem parseO_none{s:List UInt8}(h:parseC s=none):parseO s=(zero,60):=by unfold parseO;rw [h]
theorem lineO_some{s:List UInt8}{c:Cm}(h:lineC c=some s):lineO c=(s,0):=by unfold lineO;rw [h]
theorem lineO_none{c:Cm}(h:lineC c=none):lineO c=([],1):=by unfold lineO;rw [h]
theorem line_len{s:List UInt8}{c:Cm}(hc:CmOk c)(h:lineC c=some s):s.length≤200000:=by
 have:=build_len c hc
 unfold lineC at h
 split at h
 ·simp at h;rw [← h];exact this
 ·cases h
end Cn
abbrev LineA(v:Value)(S:ByteArray)(e:Int):Prop:=∀ u,Gc u→Calls Tryz.prog 11 #[v] u fun x w'=>x=.returned (.tuple #[.string S,.int .i64 e])∧∃ g,w'=more u g
abbrev ParseA(S:ByteArray)(v:Value)(e:Int):Prop:=∀ u,Gc u→Calls Tryz.prog 8 #[.string S] u fun x w'=>x=.returned (.tuple #[v,.int .i64 e])∧∃ g,w'=more u g
abbrev SameA(a b:Value):Prop:=∀ u,Calls Tryz.prog 10 #[a,b] u fun x w'=>x=.returned (.bool true)∧∃ g,w'=more u g
theorem back_yy(op:Int)(N T s X:ByteArray)(z1 z2 z3:Int)(ko k1 k2 k3:Int)(K1 K2:ByteArray)(w:World)(HG:Hid (Gc w))(HW:Hid (∀ u,Gc u→Calls Tryz.prog 7 #[] u fun e w'=>e=.returned (.bool true)∧∃ g,w'=more u g))(n1:(N.size:Int)≤40000)(t1:(T.size:Int)≤40000)(s1:(s.size:Int)≤40000)(H1:Hid (LineA (.agg #[.int .i64 op,.string N,.string T,.int .i64 z1,.int .i64 z2,.int .i64 z3]) X 0))(H2:Hid (ParseA X (.agg #[.int .i64 op,.string N,.string T,.int .i64 z1,.int .i64 z2,.int .i64 z3]) 0))(H3:Hid (SameA (.agg #[.int .i64 op,.string N,.string T,.int .i64 z1,.int .i64 z2,.int .i64 z3]) (.agg #[.int .i64 op,.string N,.string T,.int .i64 z1,.int .i64 z2,.int .i64 z3])))(H4:Hid (ParseA s (.agg #[.int .i64 ko,.string K1,.string K2,.int .i64 k1,.int .i64 k2,.int .i64 k3]) 0))(H5:Hid (LineA (.agg #[.int .i64 ko,.string K1,.string K2,.int .i64 k1,.int .i64 k2,.int .i64 k3]) s 0)) :
  Calls Tryz.prog 5 #[.agg #[.int .i64 op,.string N,.string T,.int .i64 z1,.int .i64 z2,.int .i64 z3],.string s] w fun e w'=>e=.returned (.bool true)∧Below w.heap.size w w':=by
 go_enter Tryz.func5,Tryz.ntmps5
 go_wp2_with (first|(go_at_call 11;first|((with_reducible refine(H1.out _ (HG.out.below bT)).mono ?_);rintro e w2 ⟨rfl,g2,rfl⟩)|((with_reducible refine(H5.out _ (HG.out.below bT)).mono ?_);rintro e w3 ⟨rfl,g3,rfl⟩))|(go_at_call 8;first|((with_reducible refine(H2.out _ (HG.out.below bT)).mono ?_);rintro e w4 ⟨rfl,g4,rfl⟩)|((with_reducible refine(H4.out _ (HG.out.below bT)).mono ?_);rintro e w5 ⟨rfl,g5,rfl⟩))|(go_at_call 10;((with_reducible refine(H3.out _).mono ?_);rintro e w7 ⟨rfl,g7,rfl⟩))|(go_at_call 7;(with_reducible refine(HW.out _ (HG.out.below bT)).mono ?_);rintro e w9 ⟨rfl,g9,rfl⟩))
 go_ret
 exact⟨rfl,bT⟩
theorem back_yn(op:Int)(N T s X:ByteArray)(z1 z2 z3:Int)(w:World)(HG:Hid (Gc w))(HW:Hid (∀ u,Gc u→Calls Tryz.prog 7 #[] u fun e w'=>e=.returned (.bool true)∧∃ g,w'=more u g))(n1:(N.size:Int)≤40000)(t1:(T.size:Int)≤40000)(s1:(s.size:Int)≤40000)(H1:Hid (LineA (.agg #[.int .i64 op,.string N,.string T,.int .i64 z1,.int .i64 z2,.int .i64 z3]) X 0))(H2:Hid (ParseA X (.agg #[.int .i64 op,.string N,.string T,.int .i64 z1,.int .i64 z2,.int .i64 z3]) 0))(H3:Hid (SameA (.agg #[.int .i64 op,.string N,.string T,.int .i64 z1,.int .i64 z2,.int .i64 z3]) (.agg #[.int .i64 op,.string N,.string T,.int .i64 z1,.int .i64 z2,.int .i64 z3])))(H4:Hid (ParseA s (.agg #[.int .i64 0,.string ⟨#[]⟩,.string ⟨#[]⟩,.int .i64 0,.int .i64 0,.int .i64 0]) 60))(H5:Hid (SameA (.agg #[.int .i64 0,.string ⟨#[]⟩,.string ⟨#[]⟩,.int .i64 0,.int .i64 0,.int .i64 0]) (.agg #[.int .i64 0,.string ⟨#[]⟩,.string ⟨#[]⟩,.int .i64 0,.int .i64 0,.int .i64 0]))) :
  Calls Tryz.prog 5 #[.agg #[.int .i64 op,.string N,.string T,.int .i64 z1,.int .i64 z2,.int .i64 z3],.string s] w fun e w'=>e=.returned (.bool true)∧Below w.heap.size w w':=by
 go_enter Tryz.func5,Tryz.ntmps5
 go_wp2_with (first|(go_at_call 11;(with_reducible refine(H1.out _ (HG.out.below bT)).mono ?_);rintro e w2 ⟨rfl,g2,rfl⟩)|(go_at_call 8;first|((with_reducible refine(H2.out _ (HG.out.below bT)).mono ?_);rintro e w4 ⟨rfl,g4,rfl⟩)|((with_reducible refine(H4.out _ (HG.out.below bT)).mono ?_);rintro e w5 ⟨rfl,g5,rfl⟩))|(go_at_call 10;first|((with_reducible refine(H3.out _).mono ?_);rintro e w7 ⟨rfl,g7,rfl⟩)|((with_reducible refine(H5.out _).mono ?_);rintro e w7 ⟨rfl,g7,rfl⟩))|(go_at_call 7;(with_reducible refine(HW.out _ (HG.out.below bT)).mono ?_);rintro e w9 ⟨rfl,g9,rfl⟩))
 go_ret
 exact⟨rfl,bT⟩
theorem back_ny(op:Int)(N T s X:ByteArray)(z1 z2 z3:Int)(ko k1 k2 k3:Int)(K1 K2:ByteArray)(w:World)(HG:Hid (Gc w))(HW:Hid (∀ u,Gc u→Calls Tryz.prog 7 #[] u fun e w'=>e=.returned (.bool true)∧∃ g,w'=more u g))(n1:(N.size:Int)≤40000)(t1:(T.size:Int)≤40000)(s1:(s.size:Int)≤40000)(H1:Hid (LineA (.agg #[.int .i64 op,.string N,.string T,.int .i64 z1,.int .i64 z2,.int .i64 z3]) X 1))(H4:Hid (ParseA s (.agg #[.int .i64 ko,.string K1,.string K2,.int .i64 k1,.int .i64 k2,.int .i64 k3]) 0))(H5:Hid (LineA (.agg #[.int .i64 ko,.string K1,.string K2,.int .i64 k1,.int .i64 k2,.int .i64 k3]) s 0)) :
  Calls Tryz.prog 5 #[.agg #[.int .i64 op,.string N,.string T,.int .i64 z1,.int .i64 z2,.int .i64 z3],.string s] w fun e w'=>e=.returned (.bool true)∧Below w.heap.size w w':=by
 go_enter Tryz.func5,Tryz.ntmps5
 go_wp2_with (first|(go_at_call 11;first|((with_reducible refine(H1.out _ (HG.out.below bT)).mono ?_);rintro e w2 ⟨rfl,g2,rfl⟩)|((with_reducible refine(H5.out _ (HG.out.below bT)).mono ?_);rintro e w3 ⟨rfl,g3,rfl⟩))|(go_at_call 8;(with_reducible refine(H4.out _ (HG.out.below bT)).mono ?_);rintro e w4 ⟨rfl,g4,rfl⟩)|(go_at_call 7;(with_reducible refine(HW.out _ (HG.out.below bT)).mono ?_);rintro e w9 ⟨rfl,g9,rfl⟩))
 go_ret
 exact⟨rfl,bT⟩
theorem back_nn(op:Int)(N T s X:ByteArray)(z1 z2 z3:Int)(w:World)(HG:Hid (Gc w))(HW:Hid (∀ u,Gc u→Calls Tryz.prog 7 #[] u fun e w'=>e=.returned (.bool true)∧∃ g,w'=more u g))(n1:(N.size:Int)≤40000)(t1:(T.size:Int)≤40000)(s1:(s.size:Int)≤40000)(H1:Hid (LineA (.agg #[.int .i64 op,.string N,.string T,.int .i64 z1,.int .i64 z2,.int .i64 z3]) X 1))(H4:Hid (ParseA s (.agg #[.int .i64 0,.string ⟨#[]⟩,.string ⟨#[]⟩,.int .i64 0,.int .i64 0,.int .i64 0]) 60))(H5:Hid (SameA (.agg #[.int .i64 0,.string ⟨#[]⟩,.string ⟨#[]⟩,.int .i64 0,.int .i64 0,.int .i64 0]) (.agg #[.int .i64 0,.string ⟨#[]⟩,.string ⟨#[]⟩,.int .i64 0,.int .i64 0,.int .i64 0]))) :
  Calls Tryz.prog 5 #[.agg #[.int .i64 op,.string N,.string T,.int .i64 z1,.int .i64 z2,.int .i64 z3],.string s] w fun e w'=>e=.returned (.bool true)∧Below w.heap.size w w':=by
 go_enter Tryz.func5,Tryz.ntmps5
 go_wp2_with (first|(go_at_call 11;(with_reducible refine(H1.out _ (HG.out.below bT)).mono ?_);rintro e w2 ⟨rfl,g2,rfl⟩)|(go_at_call 8;(with_reducible refine(H4.out _ (HG.out.below bT)).mono ?_);rintro e w4 ⟨rfl,g4,rfl⟩)|(go_at_call 10;((with_reducible refine(H5.out _).mono ?_);rintro e w7 ⟨rfl,g7,rfl⟩))|(go_at_call 7;(with_reducible refine(HW.out _ (HG.out.below bT)).mono ?_);rintro e w9 ⟨rfl,g9,rfl⟩))
 go_ret
 exact⟨rfl,bT⟩
theorem ConsoleBack_any(op:Int)(N T s:ByteArray)(z1 z2 z3:Int)(w:World)(hg:Gc w)(b1 : -9223372036854775808≤z1∧z1≤9223372036854775807)(b2 : -9223372036854775808≤z2∧z2≤9223372036854775807)(b3 : -9223372036854775808≤z3∧z3≤9223372036854775807) :
  Calls Tryz.prog 5 #[.agg #[.int .i64 op,.string N,.string T,.int .i64 z1,.int .i64 z2,.int .i64 z3],.string s] w fun e w'=>e=.returned (.bool true)∧Below w.heap.size w w':=by
 have HG:=hid hg
 have HW:=hid (fun u hu=>wakes29_any u hu)
 by_cases hn:N.size≤40000
 ·have n1:(N.size:Int)≤40000:=by omega
  by_cases ht:T.size≤40000
  ·have t1:(T.size:Int)≤40000:=by omega
   by_cases hs:s.size≤40000
   ·have s1:(s.size:Int)≤40000:=by omega
    have ok:Cn.CmOk ⟨op,N.data.toList,T.data.toList,z1,z2,z3⟩:=⟨by show N.data.toList.length≤40000;rw [← Cn.size_of rfl];exact hn,by show T.data.toList.length≤40000;rw [← Cn.size_of rfl];exact ht,b1,b2,b3⟩
    have hsl:s.data.toList.length≤40000:=by rw [← Cn.size_of rfl];exact hs
    have HC:∀ u,Gc u→_:=fun u hu=>cLine_any _ ok u hu
    have HP:∀ u,Gc u→_:=fun u hu=>cParse_any s u hu (by omega)
    simp only [Cn.LineIs,Cn.cm_self]at HC
    have HZ:=hid (Cn.same_self_cm Cn.zero)
    cases hp:Cn.parseC s.data.toList with
    | none =>
     simp only [Cn.parseO_none hp]at HP
     cases hc:Cn.lineC ⟨op,N.data.toList,T.data.toList,z1,z2,z3⟩with
     | none =>
      simp only [Cn.lineO_none hc]at HC
      exact back_nn op N T s _ z1 z2 z3 w HG HW n1 t1 s1 (hid HC) (hid HP) HZ
     | some t =>
      have HQ:∀ u,Gc u→_:=fun u hu=>cParse_any ⟨t.toArray⟩ u hu (by have:=Cn.line_len ok hc;rw [Cn.sz_mk];omega)
      have HS:=Cn.same_self_cm ⟨op,N.data.toList,T.data.toList,z1,z2,z3⟩
      simp only [Cn.lineO_some hc]at HC
      simp only [Cn.parseO_some (Cn.line_parse hc),Cn.cm_self]at HQ
      simp only [Cn.SameIs,Cn.cm_self]at HS
      exact back_yn op N T s _ z1 z2 z3 w HG HW n1 t1 s1 (hid HC) (hid HQ) (hid HS) (hid HP) HZ
    | some k =>
     have HK:∀ u,Gc u→_:=fun u hu=>cLine_any k (Cn.parse_ok hsl hp) u hu
     simp only [Cn.LineIs,Cn.lineO_some (Cn.parse_line hp),Cn.bytes_self]at HK
     simp only [Cn.parseO_some hp]at HP
     obtain⟨ko,K1,K2,k1,k2,k3⟩:=k
     cases hc:Cn.lineC ⟨op,N.data.toList,T.data.toList,z1,z2,z3⟩with
     | none =>
      simp only [Cn.lineO_none hc]at HC
      exact back_ny op N T s _ z1 z2 z3 ko k1 k2 k3 ⟨K1.toArray⟩ ⟨K2.toArray⟩ w HG HW n1 t1 s1 (hid HC) (hid HP) (hid HK)
     | some t =>
      have HQ:∀ u,Gc u→_:=fun u hu=>cParse_any ⟨t.toArray⟩ u hu (by have:=Cn.line_len ok hc;rw [Cn.sz_mk];omega)
      have HS:=Cn.same_self_cm ⟨op,N.data.toList,T.data.toList,z1,z2,z3⟩
      simp only [Cn.lineO_some hc]at HC
      simp only [Cn.parseO_some (Cn.line_parse hc),Cn.cm_self]at HQ
      simp only [Cn.SameIs,Cn.cm_self]at HS
      exact back_yy op N T s _ z1 z2 z3 ko k1 k2 k3 ⟨K1.toArray⟩ ⟨K2.toArray⟩ w HG HW n1 t1 s1 (hid HC) (hid HQ) (hid HS) (hid HP) (hid HK)
   ·have s1:(40000:Int)<(s.size:Int):=by omega
    clear hs hn ht hg
    go_enter Tryz.func5,Tryz.ntmps5
    go_wp2_with (go_at_call 7;(with_reducible refine(HW.out _ (HG.out.below bT)).mono ?_);rintro e w5 ⟨rfl,g5,rfl⟩)
    go_ret
    exact⟨rfl,bT⟩
  ·have t1:(40000:Int)<(T.size:Int):=by omega
   clear hn ht hg
   go_enter Tryz.func5,Tryz.ntmps5
   go_wp2_with (go_at_call 7;(with_reducible refine(HW.out _ (HG.out.below bT)).mono ?_);rintro e w5 ⟨rfl,g5,rfl⟩)
   go_ret
   exact⟨rfl,bT⟩
 ·have n1:(40000:Int)<(N.size:Int):=by omega
  clear hn hg
  go_enter Tryz.func5,Tryz.ntmps5
  go_wp2_with (go_at_call 7;(with_reducible refine(HW.out _ (HG.out.below bT)).mono ?_);rintro e w5 ⟨rfl,g5,rfl⟩)
  go_ret
  exact⟨rfl,bT⟩
end Go.Proofs.YthkegfdijohpaaaGreatDoor
