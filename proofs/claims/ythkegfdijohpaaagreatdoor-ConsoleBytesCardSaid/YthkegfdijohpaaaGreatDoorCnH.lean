/- The walks of console's hexed and bytes. Conditions: the text's size is bounded. -/
import Derived.Test.YthkegfdijohpaaaGreatDoorCnC
import Derived.BigQuiet
import Derived.Deep.QuietTactic
import Derived.Handy
namespace Go.Proofs.YthkegfdijohpaaaGreatDoor
set_option linter.all false
open Go.Lib (hid)
set_option maxRecDepth 1000000
set_option maxHeartbeats 16000000
open Go.RowKit
namespace Cn
def hexTake(s:List UInt8)(k:Nat):List UInt8:=(s.take k).flatMap two
theorem hexTake_next(s:List UInt8)(k:Nat)(c:UInt8)(h:s[k]?=some c):Lib.byteCells (hexTake s (k+1))=Lib.byteCells (hexTake s k)++[.int .u8 ((As.lx (c.toNat / 16)).toNat:Int)]++[.int .u8 ((As.lx (c.toNat % 16)).toNat:Int)]:=by
 unfold hexTake
 rw [List.take_add_one,h]
 simp [List.flatMap_append,two,Lib.byteCells]
theorem hexTake_len(s:List UInt8)(k:Nat)(h:k≤s.length):(Lib.byteCells (hexTake s k)).length=2 * k:=by
 unfold hexTake Lib.byteCells
 have:∀ l:List UInt8,(l.flatMap two).length=2 * l.length:=by
  intro l;induction l with
  | nil=>rfl
  | cons c t ih=>simp only [List.flatMap_cons,List.length_append,ih,two,List.length_cons,List.length_nil];omega
 simp [this];omega
end Cn
theorem hexed_nil(w:World):Calls Tryz.prog 21 #[.string ⟨#[]⟩] w fun e w'=>e=.returned (.string ⟨#[45]⟩)∧∃ g,w'=more w g:=by
 go_enter Tryz.func21,Tryz.ntmps21
 go_wp2
 go_ret
 exact⟨rfl,more_refl _⟩
theorem hexed_some(s:ByteArray)(w:World)(hmax:(s.size:Int)≤1000000)(h1:s.toList.isEmpty=false) :
  Calls Tryz.prog 21 #[.string s] w fun e w'=>e=.returned (.string ⟨(s.data.toList.flatMap Cn.two).toArray⟩)∧∃ g,w'=more w g:=by
 have hdg:=hid (fun(d:Nat) (h:d<16)=>Cn.dg_at d h)
 go_enter Tryz.func21,Tryz.ntmps21
 go_wp2
 generalize hW:World.alloc _ _=W
 have HS:=hid (show Cn.BSt w W w.heap.size (Cn.hexTake s.data.toList 0)from⟨by
  rw [← hW]
  exact Lib.fresh_isBuilder _ _ _,by rw [← hW];exact(Below.refl _ _).alloc (Nat.le_refl _) _,by rw [← hW];simp⟩)
 clear hW
 obtain⟨bb,hbb⟩:∃ bb,bb=w.heap.size:=⟨_,rfl⟩
 rw [← hbb]at HS ⊢
 replace hbb:=hid hbb
 go_loopw [9] (fun i wr=>∃ k:Nat,k≤s.size∧i=.int .i64 k∧Hid (Cn.BSt w wr bb (Cn.hexTake s.data.toList k))) (fun i _=>s.size - (intOf i).toNat)
 case atStart=>exact⟨0,by omega,rfl,HS⟩
 case round =>
  obtain⟨k,hk,rfl,H⟩:=hrel
  clear HS
  have hsz:=H.out.sz
  have HBr:=hid H.out.bel
  by_cases hlt:k<s.size
  ·have hsk:s.data.toList[k]?=some (s[k]'hlt):=by rw [List.getElem?_eq_getElem (by simpa using hlt)];rfl
   have HNx:=hid (Cn.hexTake_next s.data.toList k _ hsk)
   have hL:=Cn.hexTake_len s.data.toList k (by simp;omega)
   have HBd:=hid H.out.bd
   have kk:(k:Int)<(s.size:Int):=by omega
   clear hsk H
   obtain⟨L,hLe⟩:∃ L,L=Lib.byteCells (Cn.hexTake s.data.toList k):=⟨_,rfl⟩
   rw [← hLe]at HBd hL HNx
   clear hLe
   have hL2:(L.length:Int)≤2000000:=by omega
   clear hL
   have h256:=(s[k]'hlt).toNat_lt
   have ha:=Cn.and_hex (s[k]'hlt)
   have hd1:=hdg.out ((s[k]'hlt).toNat / 16) (by omega)
   have hd2:=hdg.out ((s[k]'hlt).toNat % 16) (by omega)
   generalize hc:s[k]'hlt=c at *
   go_wp2_with (go_at_call 34;first|((with_reducible refine(cwbyte_any bb bb _ _ _ (Cn.isb_at hB5.out) ?_ ?_).mono ?_);(focus(simp;omega));(focus(omega));rintro e w6 ⟨rfl,hB6,hb6⟩;have hs6:=hb6.size;replace hB6:=hid hB6;replace hb6:=hid hb6)|((with_reducible refine(cwbyte_any bb bb _ _ _ HBd.out ?_ ?_).mono ?_);(focus(omega));(focus(omega));rintro e w5 ⟨rfl,hB5,hb5⟩;have hs5:=hb5.size;replace hB5:=hid hB5;replace hb5:=hid hb5))
   go_roundw
   case rel=>exact⟨k+1,by omega,by go_num,hid ⟨by rw [HNx.out];exact Cn.isb_at hB6.out,HBr.out.trans (hb5.out.trans hb6.out),by omega⟩⟩
   case measure=>simp [intOf];omega
  ·have hkn:k=s.size:=by omega
   subst hkn
   have HBd:=hid (show Lib.IsBuilder 70 5 bb bb (Lib.byteCells (s.data.toList.flatMap Cn.two)) wr by have:=H.out.bd;unfold Cn.hexTake at this;rw [List.take_of_length_le (by simp)]at this;exact this)
   have HSt:=hid (fun(u:World) hB hs=>cbstring_any bb bb (s.data.toList.flatMap Cn.two) u hB hs)
   obtain⟨R,hR⟩:∃ R,R=s.data.toList.flatMap Cn.two:=⟨_,rfl⟩
   rw [← hR]at HBd HSt
   have HRh:=hid hR
   clear hR H
   go_wp2_with (go_at_call 35;(with_reducible refine(HSt.out _ HBd.out hsz).mono ?_);rintro e w5 ⟨rfl,hb5⟩;replace hb5:=hid hb5)
   go_ret
   exact⟨by rw [HRh.out];rfl,more_of_below (hbb.out ▸ HBr.out.trans hb5.out)⟩
theorem hexed_any(s:ByteArray)(w:World)(hmax:s.size≤1000000):Calls Tryz.prog 21 #[.string s] w fun e w'=>e=.returned (.string ⟨(Cn.hexC s.data.toList).toArray⟩)∧∃ g,w'=more w g:=by
 by_cases h:s.data.toList=[]
 ·have:s=⟨#[]⟩:=ByteArray.ext (Array.ext' h)
  subst this
  exact hexed_nil w
 ·unfold Cn.hexC
  rw [if_neg h]
  refine hexed_some s w (by omega) ?_
  rw [ByteArray.toList_eq]
  cases hd:s.data.toList with
  | nil=>exact absurd hd h
  | cons x t=>rfl
theorem cbytes_dash(w:World):Calls Tryz.prog 29 #[.string ⟨#[45]⟩] w fun e w'=>e=.returned (.tuple #[.string ⟨#[]⟩,.bool true])∧∃ g,w'=more w g:=by
 go_enter Tryz.func29,Tryz.ntmps29
 go_wp2
 go_ret2
 exact⟨rfl,more_refl _⟩
theorem cbytes_nil(w:World):Calls Tryz.prog 29 #[.string ⟨#[]⟩] w fun e w'=>e=.returned (.tuple #[.string ⟨#[]⟩,.bool false])∧∃ g,w'=more w g:=by
 go_enter Tryz.func29,Tryz.ntmps29
 go_wp2
 go_ret2
 exact⟨rfl,more_refl _⟩
theorem cbytes_odd(s:ByteArray)(w:World)(hmax:(s.size:Int)≤1000000)(h1:(s.toList == [45])=false)(h2:s.toList.isEmpty=false)(h3:(((s.size:Int) % 2) != 0)=true) :
  Calls Tryz.prog 29 #[.string s] w fun e w'=>e=.returned (.tuple #[.string ⟨#[]⟩,.bool false])∧∃ g,w'=more w g:=by
 go_enter Tryz.func29,Tryz.ntmps29
 go_wp2
 go_ret2
 exact⟨rfl,more_refl _⟩
theorem cbytes_even(s:ByteArray)(w:World)(hmax:(s.size:Int)≤1000000)(h1:(s.toList == [45])=false)(h2:s.toList.isEmpty=false)(h3:(((s.size:Int) % 2) != 0)=false)(m:Nat)(hm:s.size=2 * m) :
  Calls Tryz.prog 29 #[.string s] w fun e w'=>e=.returned (.tuple #[.string ⟨((Cn.pairs s.data.toList).getD []).toArray⟩,.bool (Cn.pairs s.data.toList).isSome])∧∃ g,w'=more w g:=by
 have HIx:=hid (fun c u=>cix_any c u)
 have HM:=hid hm
 clear hm
 go_enter Tryz.func29,Tryz.ntmps29
 go_wp2
 generalize hW:World.alloc _ _=W
 have HS:=hid (show Cn.BSt w W w.heap.size []from⟨by
  rw [← hW]
  exact Lib.fresh_isBuilder _ _ _,by rw [← hW];exact(Below.refl _ _).alloc (Nat.le_refl _) _,by rw [← hW];simp⟩)
 clear hW
 obtain⟨bb,hbb⟩:∃ bb,bb=w.heap.size:=⟨_,rfl⟩
 rw [← hbb]at HS ⊢
 replace hbb:=hid hbb
 go_loopw [5] (fun i wr=>∃(j:Nat) (b:List UInt8),j≤s.size∧i=.int .i64 (j:Int)∧Hid (2 * b.length=j)∧Hid (Cn.PSt s.data.toList j b)∧Hid (Cn.BSt w wr bb b)) (fun i _=>s.size - (intOf i).toNat)
 case atStart=>exact⟨0,[],by omega,rfl,hid rfl,hid (Cn.pst_start _),HS⟩
 case round =>
  obtain⟨j,b,hk,rfl,HBl,HP,H⟩:=hrel
  clear HS
  have hsz:=H.out.sz
  have HBr:=hid H.out.bel
  by_cases hlt:j<s.size
  ·have q0:j<s.size:=hlt
   have q1:j+1<s.size:=by have:=HM.out;have:=HBl.out;omega
   have hx:s.data.toList[j]?=some (s[j]'q0):=by rw [List.getElem?_eq_getElem (by simpa using q0)];rfl
   have hy:s.data.toList[j+1]?=some (s[j+1]'q1):=by rw [List.getElem?_eq_getElem (by simpa using q1)];rfl
   have k0:(j:Int)<(s.size:Int):=by omega
   have k1:(j:Int)+1<(s.size:Int):=by omega
   have HD1:=hid (fun u=>cix_any (s[j]'q0) u)
   have HD2:=hid (fun u=>cix_any (s[j+1]'q1) u)
   have hxt:=(s[j]'q0).toNat_lt
   have hyt:=(s[j+1]'q1).toNat_lt
   have HBd:=hid H.out.bd
   have hL2:((Lib.byteCells b).length:Int)≤1000000:=by have:=HBl.out;simp [Lib.byteCells];omega
   clear H HIx
   generalize hX:s[j]'q0=x at *
   generalize hY:s[j+1]'q1=y at *
   cases hp:As.ux x with
   | some p =>
    obtain⟨e1,p1⟩:=Cn.ixD_some hp
    have HD1':=HD1.out
    rw [e1]at HD1'
    have HE1:=hid HD1'
    cases hq:As.ux y with
    | some q =>
     obtain⟨e2,q2⟩:=Cn.ixD_some hq
     have HD2':=HD2.out
     rw [e2]at HD2'
     have HE2:=hid HD2'
     have HN:=hid (Cn.pst_next HP.out hx hy hp hq)
     have hor:=Cn.or_hex p1 q2
     have hbb:((UInt8.ofNat (p * 16+q)).toNat:Int)=((p * 16+q:Nat):Int):=by rw [UInt8.toNat_ofNat'];omega
     have HBc:=hid (show Lib.byteCells (b++[UInt8.ofNat (p * 16+q)])=Lib.byteCells b++[.int .u8 ((p * 16+q:Nat):Int)]by simp [Lib.byteCells];omega)
     obtain⟨pi,hpi⟩:∃ pi:Int,pi=(p:Int):=⟨_,rfl⟩
     obtain⟨qi,hqi⟩:∃ qi:Int,qi=(q:Int):=⟨_,rfl⟩
     obtain⟨zi,hzi⟩:∃ zi:Int,zi=((p * 16+q:Nat):Int):=⟨_,rfl⟩
     rw [← hpi]at HE1 hor
     rw [← hqi]at HE2 hor
     rw [← hzi]at hor HBc
     have a0:0≤pi:=by omega
     have a1:pi<16:=by omega
     have a2:0≤qi:=by omega
     have a3:qi<16:=by omega
     obtain⟨L,hLe⟩:∃ L,L=Lib.byteCells b:=⟨_,rfl⟩
     rw [← hLe]at HBd hL2 HBc
     clear hx hy HD1 HD2 HD1' HD2' e1 e2 hp hq hpi hqi hzi p1 q2 hbb HP hLe
     go_wp2
     go_quiet ((go_at_call 49;with_reducible first|exact Cn.ql (HE1.out _)|exact Cn.ql (HE2.out _)))
     go_wp2_with (go_at_call 34;go_loud ((with_reducible refine(cwbyte_any bb bb _ _ _ (Cn.isb_below HBd.out (below_drewN (Below.refl _ _) _)) ?_ ?_).mono ?_);(focus(first|omega|(simp;omega)|(simp;done)));(focus(first|omega|(simp;omega)|(simp;done)));rintro e w5 ⟨rfl,hB5,hb5⟩;have hs5:=hb5.size;replace hB5:=hid hB5;replace hb5:=hid hb5))
     go_roundw
     case rel=>exact⟨j+2,b++[UInt8.ofNat (p * 16+q)],by omega,by go_num,hid (by have:=HBl.out;simp;omega),HN,hid ⟨by rw [HBc.out];exact Cn.isb_at hB5.out,(below_drewN HBr.out _).trans hb5.out,by have:=hb5.out.size;simp at this;omega⟩⟩
     case measure=>simp [intOf];omega
    | none =>
     have e2:=Cn.ixD_none hq
     have HD2':=HD2.out
     rw [e2]at HD2'
     have HE2:=hid HD2'
     have HN:=hid (Cn.pst_bad HP.out hx hy (.inr hq))
     obtain⟨pi,hpi⟩:∃ pi:Int,pi=(p:Int):=⟨_,rfl⟩
     rw [← hpi]at HE1
     have a0:0≤pi:=by omega
     have a1:pi<16:=by omega
     clear hx hy HD1 HD2 HD1' HD2' e1 e2 hp hq hpi p1 HP HBd hL2
     go_wp2
     go_quiet ((go_at_call 49;with_reducible first|exact Cn.ql (HE1.out _)|exact Cn.ql (HE2.out _)))
     go_wp2
     go_ret2
     exact⟨by rw [HN.out];rfl,more_of_below (hbb.out ▸ (below_drewN HBr.out _))⟩
   | none =>
    have e1:=Cn.ixD_none hp
    have HD1':=HD1.out
    rw [e1]at HD1'
    have HE1:=hid HD1'
    have HN:=hid (Cn.pst_bad HP.out hx hy (.inl hp))
    obtain⟨qi,hqi⟩:∃ qi:Int,qi=Cn.ixD y:=⟨_,rfl⟩
    have HE2:=HD2
    rw [← hqi]at HE2
    clear hx hy HD1 HD2 HD1' e1 hp hqi HP HBd hL2
    go_wp2
    go_quiet ((go_at_call 49;with_reducible first|exact Cn.ql (HE1.out _)|exact Cn.ql (HE2.out _)))
    go_wp2
    go_ret2
    exact⟨by rw [HN.out];rfl,more_of_below (hbb.out ▸ (below_drewN HBr.out _))⟩
  ·have hkn:j=s.size:=by omega
   subst hkn
   have HN:=hid (Cn.pst_end HP.out (by have:s.data.toList.length=s.size:=(by simp);omega))
   have HBd:=hid H.out.bd
   have HSt:=hid (fun(u:World) hB hs=>cbstring_any bb bb b u hB hs)
   clear H HP HIx
   go_wp2_with (go_at_call 35;(with_reducible refine(HSt.out _ HBd.out hsz).mono ?_);rintro e w5 ⟨rfl,hb5⟩;replace hb5:=hid hb5)
   go_ret2
   exact⟨by rw [HN.out];rfl,more_of_below (hbb.out ▸ HBr.out.trans hb5.out)⟩
theorem cbytes_any(s:ByteArray)(w:World)(hmax:s.size≤1000000):Calls Tryz.prog 29 #[.string s] w fun e w'=>e=.returned (.tuple #[.string ⟨(Cn.bytesO s.data.toList).1.toArray⟩,.bool (Cn.bytesO s.data.toList).2])∧∃ g,w'=more w g:=by
 have hsl:s.data.toList.length=s.size:=by simp
 by_cases hd:s.data.toList=[45]
 ·have:s=⟨#[45]⟩:=ByteArray.ext (Array.ext' hd)
  subst this
  exact cbytes_dash w
 ·by_cases hn:s.data.toList=[]
  ·have:s=⟨#[]⟩:=ByteArray.ext (Array.ext' hn)
   subst this
   exact cbytes_nil w
  ·have h1:(s.toList == [45])=false:=by rw [ByteArray.toList_eq,beq_eq_false_iff_ne];exact hd
   have h2:s.toList.isEmpty=false:=by
    rw [ByteArray.toList_eq]
    cases he:s.data.toList with
    | nil=>exact absurd he hn
    | cons x t=>rfl
   have hO:Cn.bytesO s.data.toList=((Cn.pairs s.data.toList).getD [],(Cn.pairs s.data.toList).isSome):=by
    cases hp:Cn.pairs s.data.toList with
    | none=>exact Cn.bytesO_none hd hn hp
    | some b=>exact Cn.bytesO_some hd hn hp
   by_cases ho:s.size % 2=0
   ·rw [hO]
    exact cbytes_even s w (by omega) h1 h2 (by simp;omega) (s.size / 2) (by omega)
   ·rw [Cn.bytesO_odd hd (by omega)]
    exact cbytes_odd s w (by omega) h1 h2 (by simp;omega)
end Go.Proofs.YthkegfdijohpaaaGreatDoor
