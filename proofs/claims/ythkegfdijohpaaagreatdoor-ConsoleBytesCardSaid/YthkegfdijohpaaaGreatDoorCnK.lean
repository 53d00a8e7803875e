/- The walks of the document's bytes and Hexa. Conditions: the text's size is bounded. -/
import Derived.Test.YthkegfdijohpaaaGreatDoorCnJ
import Derived.Test.YthkegfdijohpaaaGreatDoorCnC
namespace Go.Proofs.YthkegfdijohpaaaGreatDoor
set_option linter.all false
open Go.Lib (hid)
set_option maxRecDepth 1000000
set_option maxHeartbeats 16000000
open Go.RowKit
namespace Cn
theorem hex8_two(c:UInt8):(As.hex8 (c.toNat:Int)).drop 6=two c∧(As.hex8 (c.toNat:Int)).length=8:=by
 have h:∀ c:Fin 256,(As.hex8 ((UInt8.ofNat c.1).toNat:Int)).drop 6=two (UInt8.ofNat c.1):=by decide +kernel
 refine⟨?_,As.hexK_len 8 _⟩
 have:=h ⟨c.toNat,c.toNat_lt⟩
 simpa using this
def hexT(s:List UInt8)(k:Nat):List UInt8:=(s.take k).flatMap two
theorem hexT_next(s:List UInt8)(k:Nat)(c:UInt8)(h:s[k]?=some c):hexT s (k+1)=hexT s k++two c:=by
 unfold hexT
 rw [List.take_add_one,h]
 simp [List.flatMap_append]
theorem hexT_len(s:List UInt8)(k:Nat)(h:k≤s.length):(hexT s k).length=2 * k:=by
 unfold hexT
 have:∀ l:List UInt8,(l.flatMap two).length=2 * l.length:=by
  intro l;induction l with
  | nil=>rfl
  | cons c t ih=>simp only [List.flatMap_cons,List.length_append,ih,two,List.length_cons,List.length_nil];omega
 rw [this];simp;omega
structure HSt(w0 wr:World)(l:List UInt8)(v:Value):Prop where
 own:wr.ownsRow w0.heap.size 5 1 v l.length (As.bcell l)
 bel:Below w0.heap.size w0 wr
end Cn
theorem rhexa_nil(w:World):Calls Tryz.prog 23 #[.string ⟨#[]⟩] w fun e w'=>e=.returned (.string ⟨#[45]⟩)∧∃ g,w'=more w g:=by
 go_enter Tryz.func23,Tryz.ntmps23
 go_wp2
 go_ret
 exact⟨rfl,more_refl _⟩
theorem rhexa_some(s:ByteArray)(w:World)(hmax:(s.size:Int)≤1000000)(h1:s.toList.isEmpty=false) :
  Calls Tryz.prog 23 #[.string s] w fun e w'=>e=.returned (.string ⟨(s.data.toList.flatMap Cn.two).toArray⟩)∧∃ g,w'=more w g:=by
 obtain⟨i0,hi,hz0,hz1,hz2⟩:=info_parts info_byte
 go_enter Tryz.func23,Tryz.ntmps23
 go_wp2
 go_loopw [3,4] (fun v i wr=>∃ k:Nat,k≤s.size∧i=.int .i64 k∧Hid (Cn.HSt w wr (Cn.hexT s.data.toList k) v)) (fun _ i _=>s.size - (intOf i).toNat)
 case atStart=>exact⟨0,by omega,rfl,hid ⟨by unfold Cn.hexT;exact World.ownsRow_nil _ _ _ _,Below.refl _ _⟩⟩
 case round =>
  obtain⟨k,hk,rfl,H⟩:=hrel
  have HB:=hid H.out.bel
  have HO:=hid H.out.own
  have hsz:=HB.out.size
  by_cases hlt:k<s.size
  ·have hsk:s.data.toList[k]?=some (s[k]'hlt):=by rw [List.getElem?_eq_getElem (by simpa using hlt)];rfl
   have HNx:=hid (Cn.hexT_next s.data.toList k _ hsk)
   have hL:=Cn.hexT_len s.data.toList k (by simp;omega)
   have kk:(k:Int)<(s.size:Int):=by omega
   clear hsk H
   generalize Cn.hexT s.data.toList k=L at *
   have hL2:(L.length:Int)≤2000000:=by omega
   clear hL
   have h256:=(s[k]'hlt).toNat_lt
   have HHx:=hid (fun u=>rhex8_any ((s[k]'hlt).toNat:Int) (by omega) (by omega) u)
   have h8:=Cn.hex8_two (s[k]'hlt)
   generalize hc:s[k]'hlt=c at *
   obtain⟨D,hD⟩:∃ D:ByteArray,D=⟨(As.hex8 (c.toNat:Int)).toArray⟩:=⟨_,rfl⟩
   have hD8:D.size=8:=by rw [hD];show(As.hex8 (c.toNat:Int)).toArray.size=8;simpa using h8.2
   have hD8i:(D.size:Int)=8:=by omega
   obtain⟨E,hE⟩:∃ E:ByteArray,D.extract 6 D.size=E:=⟨_,rfl⟩
   obtain⟨E8,hE8⟩:∃ E:ByteArray,D.extract 6 8=E:=⟨_,rfl⟩
   have hEE:E8=E:=by rw [← hE8,← hE,hD8]
   have hEl:E.data.toList=Cn.two c:=by
    rw [← hE,hD8,hD]
    have:((⟨(As.hex8 (c.toNat:Int)).toArray⟩:ByteArray).extract 6 8).data.toList=((As.hex8 (c.toNat:Int)).take 8).drop 6:=by simp [List.drop_take]
    rw [this,List.take_of_length_le (Nat.le_of_eq h8.2),h8.1]
   have hE2:E.size=2:=by
    have:E.data.toList.length=E.size:=by simp
    rw [← this,hEl];rfl
   have HEc:=hid (show Lib.strCells E=As.bcell (Cn.two c)by unfold Lib.strCells As.bcell;rw [hEl])
   rw [← hD]at HHx
   subst hEE
   have HDD:=hid hD8
   clear hD h8 hEl hD8
   go_wp2_with (first|(go_at_call 37;(with_reducible refine(HHx.out _).mono ?_);rintro e w4 ⟨rfl,g4,rfl⟩)|(at_builtin;go_loud (refine Lib.wpList_append_own_string _ rfl _ _ 65 9 rfl w.heap.size 5 i0 Tryz.underlying65 Tryz.underlying9 hi hz0 hz1 hz2 _ _ _ rfl (owns_kept' HO.out ?_) E8 rfl ?_ ?_ ?_ ?_;(focus(exact bT));(focus(unfold maxLen;omega));(focus omega);(focus(first|(simp [more_size];omega)|omega));intro v1 w1 hown1 hgrow1 hnn)))
   go_roundw
   case rel =>
    refine⟨k+1,by omega,by go_num,hid ⟨?_,below_grown (by have q:=HB.out;exact bT) (by first|(simp [more_size];omega)|omega) hgrow1 (owns_rows HO.out)⟩⟩
    rw [HNx.out]
    have e1:As.bcell (L++Cn.two c)=As.bcell L++Lib.strCells E8:=by rw [HEc.out];simp [As.bcell]
    rw [e1,List.length_append,show(Cn.two c).length=E8.size by rw [hE2];rfl]
    exact hown1
   case measure=>simp [intOf];omega
  ·have hkn:k=s.size:=by omega
   subst hkn
   have hown:=H.out.own
   unfold Cn.hexT at hown
   rw [List.take_of_length_le (by simp)]at hown
   have hcv:=As.conv_own hown
   obtain⟨R,hR⟩:∃ R,R=s.data.toList.flatMap Cn.two:=⟨_,rfl⟩
   rw [← hR]at hcv
   have HRh:=hid hR
   clear hown H HO hR
   go_wp2
   go_ret
   exact⟨by rw [HRh.out];rfl,more_of_below HB.out⟩
theorem rhexa_any(s:ByteArray)(w:World)(hmax:s.size≤1000000):Calls Tryz.prog 23 #[.string s] w fun e w'=>e=.returned (.string ⟨(Cn.hexC s.data.toList).toArray⟩)∧∃ g,w'=more w g:=by
 by_cases h:s.data.toList=[]
 ·have:s=⟨#[]⟩:=ByteArray.ext (Array.ext' h)
  subst this
  exact rhexa_nil w
 ·unfold Cn.hexC
  rw [if_neg h]
  refine rhexa_some s w (by omega) ?_
  rw [ByteArray.toList_eq]
  cases hd:s.data.toList with
  | nil=>exact absurd hd h
  | cons x t=>rfl
/-! bytes -/
theorem rbytes_dash(w:World):Calls Tryz.prog 18 #[.string ⟨#[45]⟩] w fun e w'=>e=.returned (.tuple #[.string ⟨#[]⟩,.bool true])∧∃ g,w'=more w g:=by
 go_enter Tryz.func18,Tryz.ntmps18
 go_wp2
 go_ret2
 exact⟨rfl,more_refl _⟩
theorem rbytes_nil(w:World):Calls Tryz.prog 18 #[.string ⟨#[]⟩] w fun e w'=>e=.returned (.tuple #[.string ⟨#[]⟩,.bool false])∧∃ g,w'=more w g:=by
 go_enter Tryz.func18,Tryz.ntmps18
 go_wp2
 go_ret2
 exact⟨rfl,more_refl _⟩
theorem rbytes_odd(s:ByteArray)(w:World)(h0:((s.size:Int) == 0)=false)(h1:(s.toList == [45])=false)(h3:(((s.size:Int) % 2) != 0)=true) :
  Calls Tryz.prog 18 #[.string s] w fun e w'=>e=.returned (.tuple #[.string ⟨#[]⟩,.bool false])∧∃ g,w'=more w g:=by
 go_enter Tryz.func18,Tryz.ntmps18
 go_wp2
 go_ret2
 exact⟨rfl,more_refl _⟩
namespace Cn
structure QSt(s:ByteArray)(w0 wr:World)(k:Nat)(b:List UInt8)(v:Value):Prop where
 own:wr.ownsRow w0.heap.size 5 1 v b.length (As.bcell b)
 bel:Below w0.heap.size w0 wr
 pst:PSt s.data.toList k b
theorem bcell_snoc(b:List UInt8)(x:UInt8):As.bcell (b++[x])=As.bcell b++[.int .u8 (x.toNat:Int)]:=by simp [As.bcell]
theorem byte_of(p q:Nat)(hp:p<16)(hq:q<16):((UInt8.ofNat (p * 16+q)).toNat:Int)=16 * (p:Int)+(q:Int):=by
 rw [UInt8.toNat_ofNat'];omega
theorem pairs_O{s:List UInt8}(h:s ≠ [45])(hn:s ≠ []):bytesO s=((pairs s).getD [],(pairs s).isSome):=by
 cases hp:pairs s with
 | none=>exact bytesO_none h hn hp
 | some b=>exact bytesO_some h hn hp
end Cn
theorem rbytes_even(s:ByteArray)(w:World)(hmax:(s.size:Int)≤1000000)(h0:((s.size:Int) == 0)=false)(h1:(s.toList == [45])=false)(h3:(((s.size:Int) % 2) != 0)=false)(m:Nat)(hm:s.size=2 * m) :
  Calls Tryz.prog 18 #[.string s] w fun e w'=>e=.returned (.tuple #[.string ⟨((Cn.pairs s.data.toList).getD []).toArray⟩,.bool (Cn.pairs s.data.toList).isSome])∧∃ g,w'=more w g:=by
 obtain⟨i0,hi,hz0,hz1,hz2⟩:=info_parts info_byte
 have HDg:=hid (fun c u=>rdigit_any c u)
 have HM:=hid hm
 clear hm
 go_enter Tryz.func18,Tryz.ntmps18
 go_wp2
 go_loopw [4,5] (fun v i wr=>∃(j:Nat) (b:List UInt8),j≤s.size∧i=.int .i64 (j:Int)∧Hid (2 * b.length=j)∧Hid (Cn.QSt s w wr j b v)) (fun _ i _=>s.size - (intOf i).toNat)
 case atStart=>exact⟨0,[],by omega,rfl,hid rfl,hid ⟨World.ownsRow_nil _ _ _ _,Below.refl _ _,Cn.pst_start _⟩⟩
 case round =>
  obtain⟨j,b,hk,rfl,HBl,H⟩:=hrel
  have hbs:(b.length:Int)≤1000000:=by have:=HBl.out;omega
  have HB:=hid H.out.bel
  have HO:=hid H.out.own
  have HP:=hid H.out.pst
  have hsz:=HB.out.size
  clear H
  by_cases hlt:j<s.size
  ·have q0:j<s.size:=hlt
   have q1:j+1<s.size:=by have:=HM.out;have:=HBl.out;omega
   have hx:s.data.toList[j]?=some (s[j]'q0):=by rw [List.getElem?_eq_getElem (by simpa using q0)];rfl
   have hy:s.data.toList[j+1]?=some (s[j+1]'q1):=by rw [List.getElem?_eq_getElem (by simpa using q1)];rfl
   have k0:(j:Int)<(s.size:Int):=by omega
   have k1:(j:Int)+1<(s.size:Int):=by omega
   have HD1:=hid (fun u=>rdigit_any (s[j]'q0) u)
   have HD2:=hid (fun u=>rdigit_any (s[j+1]'q1) u)
   have hxt:=(s[j]'q0).toNat_lt
   have hyt:=(s[j+1]'q1).toNat_lt
   generalize hX:s[j]'q0=x at *
   generalize hY:s[j+1]'q1=y at *
   cases hp:As.ux x with
   | some p =>
    obtain⟨e1,p1⟩:=Cn.ixD_some hp
    have HD1':=HD1.out
    rw [e1]at HD1'
    have HE1:=hid HD1'
    cases hq:As.ux y with
    | some q =>
     obtain⟨e2,q2⟩:=Cn.ixD_some hq
     have HD2':=HD2.out
     rw [e2]at HD2'
     have HE2:=hid HD2'
     have HN:=hid (Cn.pst_next HP.out hx hy hp hq)
     have hbb:=Cn.byte_of p q p1 q2
     obtain⟨z,hz⟩:∃ z:UInt8,z=UInt8.ofNat (p * 16+q):=⟨_,rfl⟩
     rw [← hz]at hbb HN
     have hz256:=z.toNat_lt
     obtain⟨pi,hpi⟩:∃ pi:Int,pi=(p:Int):=⟨_,rfl⟩
     obtain⟨qi,hqi⟩:∃ qi:Int,qi=(q:Int):=⟨_,rfl⟩
     rw [← hpi]at HE1 hbb
     rw [← hqi]at HE2 hbb
     have a0:0≤pi:=by omega
     have a1:pi<16:=by omega
     have a2:0≤qi:=by omega
     have a3:qi<16:=by omega
     have hbb2:=hid hbb
     clear hx hy HD1 HD2 HD1' HD2' e1 e2 hp hq hz hpi hqi p1 q2 hbb HP HDg
     go_wp2
     go_quiet ((go_at_call 32;with_reducible first|exact Cn.ql (HE1.out _)|exact Cn.ql (HE2.out _)))
     go_wp2_with (at_builtin;go_loud (refine wpList_append_reads rfl _ _ 65 rfl w.heap.size 5 i0 (.int .u8 0) 1 1 Tryz.underlying65 hi hz0 hz1 hz2 rfl (by decide) _ b.length _ rfl (owns_kept' HO.out ?_) _ 1 [.int .u8 (16 * pi+qi)] rfl (reads_litq _ _ #[.int .u8 (16 * pi+qi)] 5 1 1 (by decide) rfl ?_) ?_ ?_ ?_ ?_ ?_;(focus(exact bT));(focus(first|rfl|omega|(simp;done)|(simp;omega)));(focus(intro q hq;simp at hq;subst hq;rfl));(focus(unfold maxLen;omega));(focus omega);(focus(first|(simp;omega)|omega));intro v1 w1 hown1 hgrow1))
     go_roundw
     case rel =>
      refine⟨j+2,b++[z],by omega,by go_num,hid (by have:=HBl.out;simp;omega),hid ⟨?_,below_grown ((below_drewN HB.out _).alloc (by first|omega|(simp;omega)|(simp;done)) _) (by first|(simp;omega)|omega) hgrow1 (owns_rows HO.out),HN.out⟩⟩
      rw [Cn.bcell_snoc,hbb2.out,List.length_append,List.length_singleton]
      exact hown1
     case measure=>simp [intOf];omega
    | none =>
     have e2:=Cn.ixD_none hq
     have HD2':=HD2.out
     rw [e2]at HD2'
     have HE2:=hid HD2'
     have HN:=hid (Cn.pst_bad HP.out hx hy (.inr hq))
     obtain⟨pi,hpi⟩:∃ pi:Int,pi=(p:Int):=⟨_,rfl⟩
     rw [← hpi]at HE1
     have a0:0≤pi:=by omega
     have a1:pi<16:=by omega
     clear hx hy HD1 HD2 HD1' HD2' e1 e2 hp hq hpi p1 HP HDg
     go_wp2
     go_quiet ((go_at_call 32;with_reducible first|exact Cn.ql (HE1.out _)|exact Cn.ql (HE2.out _)))
     go_wp2
     go_ret2
     exact⟨by rw [HN.out];rfl,more_of_below (below_drewN HB.out _)⟩
   | none =>
    have e1:=Cn.ixD_none hp
    have HD1':=HD1.out
    rw [e1]at HD1'
    have HE1:=hid HD1'
    have HN:=hid (Cn.pst_bad HP.out hx hy (.inl hp))
    obtain⟨qi,hqi⟩:∃ qi:Int,qi=Cn.ixD y:=⟨_,rfl⟩
    have HE2:=HD2
    rw [← hqi]at HE2
    clear hx hy HD1 HD2 HD1' e1 hp hqi HP HDg
    go_wp2
    go_quiet ((go_at_call 32;with_reducible first|exact Cn.ql (HE1.out _)|exact Cn.ql (HE2.out _)))
    go_wp2
    go_ret2
    exact⟨by rw [HN.out];rfl,more_of_below (below_drewN HB.out _)⟩
  ·have hkn:j=s.size:=by omega
   subst hkn
   have HN:=hid (Cn.pst_end HP.out (by have:s.data.toList.length=s.size:=(by simp);omega))
   have hown:=HO.out
   have hcv:=As.conv_own hown
   clear hown HO HP
   go_wp2
   go_ret2
   exact⟨by rw [HN.out];rfl,more_of_below HB.out⟩
theorem Cn.empty_of{s:ByteArray}(h:s.data.toList=[]):s=⟨#[]⟩:=ByteArray.ext (Array.ext' h)
theorem rbytes_any(s:ByteArray)(w:World)(hmax:s.size≤1000000):Calls Tryz.prog 18 #[.string s] w fun e w'=>e=.returned (.tuple #[.string ⟨(Cn.bytesO s.data.toList).1.toArray⟩,.bool (Cn.bytesO s.data.toList).2])∧∃ g,w'=more w g:=by
 have hsl:s.data.toList.length=s.size:=by simp
 by_cases hd:s.data.toList=[45]
 ·have:s=⟨#[45]⟩:=ByteArray.ext (Array.ext' hd)
  subst this
  exact rbytes_dash w
 ·by_cases hn:s.data.toList=[]
  ·have:=Cn.empty_of hn
   subst this
   exact rbytes_nil w
  ·have h1:(s.toList == [45])=false:=by rw [ByteArray.toList_eq,beq_eq_false_iff_ne];exact hd
   have h0:((s.size:Int) == 0)=false:=by
    rw [beq_eq_false_iff_ne];intro h;exact hn (List.eq_nil_of_length_eq_zero (by omega))
   by_cases ho:s.size % 2=0
   ·rw [Cn.pairs_O hd hn]
    exact rbytes_even s w (by omega) h0 h1 (by simp;omega) (s.size / 2) (by omega)
   ·rw [Cn.bytesO_odd hd (by omega)]
    exact rbytes_odd s w h0 h1 (by simp;omega)
end Go.Proofs.YthkegfdijohpaaaGreatDoor
