/- The walks of the document's cut,number,digit,bytes,Hexa. Conditions: the text's size is bounded. -/
import Derived.Test.YthkegfdijohpaaaGreatDoorCnX
import Derived.Test.YthkegfdijohpaaaGreatDoorCnN
import Derived.Test.YthkegfdijohpaaaGreatDoorCnD
import Derived.BigQuiet
import Derived.Deep.QuietTactic
import Derived.Handy
import Derived.Lib.Hide
namespace Go.Proofs.YthkegfdijohpaaaGreatDoor
set_option linter.all false
open Go.Lib (hid)
set_option maxRecDepth 1000000
set_option maxHeartbeats 16000000
open Go.RowKit
namespace Cn
def sv'(l:List UInt8):Value:=.string ⟨l.toArray⟩
def svs'(l:List (List UInt8)):List Value:=l.map sv'
theorem ext_sv'(s:ByteArray)(f i:Nat):sv' ((s.data.toList.drop f).take (i - f))=.string (s.extract f i):=by
 unfold sv'
 congr 1
 apply ByteArray.ext
 apply Array.ext'
 simp [List.drop_take]
structure XSt(s:ByteArray)(w wr:World)(k f:Nat)(ws:List (List UInt8))(v:Value):Prop where
 bel:Below w.heap.size w wr
 own:wr.ownsRow w.heap.size 9 1 v ws.length (svs' ws)
 cut:k≤s.size→f≤k∧cutW s.data.toList=ws++cutW (s.data.toList.drop f)∧(32:UInt8) ∉ (s.data.toList.drop f).take (k - f)
 fin:s.size<k→cutW s.data.toList=ws
theorem xst_len{s:ByteArray}{w wr:World}{k f:Nat}{ws:List (List UInt8)}{v:Value}(h:XSt s w wr k f ws v):ws.length≤s.size+1:=by
 have h1:∀ l:List UInt8,(cutW l).length≤l.length+1:=by
  intro l
  induction l with
  | nil=>simp [cutW]
  | cons c t ih =>
   unfold cutW
   split
   ·simp;omega
   ·split
    ·simp
    ·rename_i h;rw [h]at ih;simp at ih ⊢;omega
 have h2:=h1 s.data.toList
 have hs:s.data.toList.length=s.size:=by simp
 by_cases hk:k≤s.size
 ·rw [(h.cut hk).2.1,List.length_append]at h2;omega
 ·rw [h.fin (by omega)]at h2;omega
theorem take_next{l:List UInt8}{f k:Nat}{c:UInt8}(hf:f≤k)(h:l[k]?=some c):(l.drop f).take (k+1 - f)=(l.drop f).take (k - f)++[c]:=by
 rw [show k+1 - f=(k - f)+1 by omega,List.take_add_one,List.getElem?_drop,show f+(k - f)=k by omega,h]
 rfl
theorem cut_blank{s:List UInt8}{f k:Nat}{ws:List (List UInt8)}(hf:f≤k)(h:s[k]?=some 32)(hno:(32:UInt8) ∉ (s.drop f).take (k - f))(hc:cutW s=ws++cutW (s.drop f)):cutW s=(ws++[(s.drop f).take (k - f)])++cutW (s.drop (k+1)):=by
 have h1:s.drop f=(s.drop f).take (k - f)++32::s.drop (k+1):=by
  conv=>lhs;rw [← List.take_append_drop (k - f) (s.drop f)]
  obtain⟨hl,hg⟩:=List.getElem?_eq_some_iff.1 h
  rw [List.drop_drop,show f+(k - f)=k by omega,List.drop_eq_getElem_cons hl,hg]
 rw [hc]
 conv=>lhs;rw [h1]
 rw [cutW_at _ _ hno]
 simp
theorem cut_end{s:List UInt8}{f:Nat}{ws:List (List UInt8)}(hno:(32:UInt8) ∉ (s.drop f).take (s.length - f))(hc:cutW s=ws++cutW (s.drop f)):cutW s=ws++[(s.drop f).take (s.length - f)]:=by
 have ht:(s.drop f).take (s.length - f)=s.drop f:=List.take_of_length_le (by simp)
 rw [ht]at hno ⊢
 rw [hc,cutW_none _ hno]
end Cn
theorem Cn.info_s':(Tryz.prog.info? 9).map (fun i=>(i.zero,i.size,i.bytes))=some (some (.string ⟨#[]⟩),1,16):=by kernel_rfl
theorem rcut_any(s:ByteArray)(w:World)(hmax:s.size≤1000000) :
  Calls Tryz.prog 17 #[.string s] w fun e w'=>(∃ v,e=.returned v∧Reads w' v (Cn.cutW s.data.toList).length 1 (Cn.svs' (Cn.cutW s.data.toList)))∧∃ g,w'=more w g:=by
 obtain⟨i0,hi,hz0,hz1,hz2⟩:=info_parts Cn.info_s'
 have hs0:(s.size:Int)≤1000000:=by omega
 clear hmax
 go_enter Tryz.func17,Tryz.ntmps17
 go_wp2
 go_loopw [3,4,5] (fun v fv iv wr=>∃(k f:Nat) (ws:List (List UInt8)),k≤s.size+1∧f≤s.size+1∧fv=.int .i64 f∧iv=.int .i64 k∧Hid (Cn.XSt s w wr k f ws v)) (fun _ _ i _=>s.size+1 - (intOf i).toNat)
 case atStart=>exact⟨0,0,[],by omega,by omega,rfl,rfl,hid ⟨Below.refl _ _,World.ownsRow_nil _ _ _ _,fun _=>⟨Nat.le_refl _,by simp,by simp⟩,fun h=>by omega⟩⟩
 case round =>
  obtain⟨k,f,ws,hk,hf,rfl,rfl,H⟩:=hrel
  have hsz:=H.out.bel.size
  have hwl:=Cn.xst_len H.out
  have HO:=hid H.out.own
  have HB:=hid H.out.bel
  have hwi:(ws.length:Int)≤1000001:=by omega
  by_cases hlt:k<s.size
  ·obtain⟨hfk,hc,hno⟩:=H.out.cut (by omega)
   have hsk:s.data.toList[k]?=some (s[k]'hlt):=by rw [List.getElem?_eq_getElem (by simpa using hlt)];rfl
   have f0:(f:Int)≤(k:Int):=by omega
   have k0:(k:Int)<(s.size:Int):=by omega
   have hne:((k:Int) == (s.size:Int))=false:=by rw [beq_eq_false_iff_ne];omega
   by_cases h32:s[k]'hlt=32
   ·rw [h32]at hsk
    have hb32:(((s[k]'hlt).toNat:Int) == 32)=true:=by rw [h32];rfl
    have HC:=hid (Cn.cut_blank hfk hsk hno hc)
    obtain⟨D,hD⟩:∃ D:ByteArray,s.extract f k=D:=⟨_,rfl⟩
    have HD:=hid (show Cn.sv' ((s.data.toList.drop f).take (k - f))=.string D by rw [← hD];exact Cn.ext_sv' s f k)
    clear hsk hno hc h32 hwl H
    go_wp2_with (at_builtin;go_loud (refine wpList_append_reads rfl _ _ 40 rfl w.heap.size 9 i0 (.string ⟨#[]⟩) 1 16 Tryz.underlying40 hi hz0 hz1 hz2 rfl (by decide) _ ws.length _ rfl (owns_kept' HO.out ?_) _ 1 [.string (D)] rfl (reads_litq _ _ #[.string (D)] 9 1 1 (by decide) rfl ?_) ?_ ?_ ?_ ?_ ?_;(focus(exact bT));(focus(first|rfl|(simp;done)|(simp [more_size];done)));(focus(intro q hq;simp at hq;subst hq;rfl));(focus(unfold maxLen;omega));(focus omega);(focus(first|(simp;omega)|omega));intro v' w1 hown' hgrow))
    go_roundw
    case rel =>
     have hb3:=below_grown (HB.out.alloc (by omega) _) (by simp;omega) hgrow (owns_rows HO.out)
     have e:Cn.svs' (ws++[(s.data.toList.drop f).take (k - f)])=Cn.svs' ws++[.string D]:=by simp [Cn.svs',HD.out]
     refine⟨k+1,k+1,ws++[(s.data.toList.drop f).take (k - f)],by omega,by omega,by go_num,by go_num,hid ⟨hb3,?_,fun _=>⟨Nat.le_refl _,HC.out,by simp⟩,fun h=>by omega⟩⟩
     rw [e,List.length_append,List.length_singleton]
     exact hown'
    case measure=>(simp [intOf];try omega)
   ·have hb32:(((s[k]'hlt).toNat:Int) == 32)=false:=by
     rw [beq_eq_false_iff_ne];intro h;exact h32 (UInt8.toNat_inj.1 (show(s[k]'hlt).toNat=32 by omega))
    have HX:=hid (show Cn.XSt s w wr (k+1) f ws _ from⟨HB.out,HO.out,fun _=>⟨by omega,hc,by
     rw [Cn.take_next hfk hsk,List.mem_append]
     rintro(h|h)
     ·exact hno h
     ·simp at h;exact h32 h.symm⟩,fun h=>by omega⟩)
    clear hsk hno hc h32 hwl H
    go_wp2
    go_roundw
    case rel=>exact⟨k+1,f,ws,by omega,by omega,rfl,by go_num,HX⟩
    case measure=>(simp [intOf];try omega)
  ·by_cases hke:k=s.size
   ·subst hke
    obtain⟨hfk,hc,hno⟩:=H.out.cut (by omega)
    have f0:(f:Int)≤(s.size:Int):=by omega
    have hsl:s.data.toList.length=s.size:=by simp
    have HC:=hid (Cn.cut_end (by rw [hsl];exact hno) hc)
    rw [hsl]at HC
    obtain⟨D,hD⟩:∃ D:ByteArray,s.extract f s.size=D:=⟨_,rfl⟩
    have HD:=hid (show Cn.sv' ((s.data.toList.drop f).take (s.size - f))=.string D by rw [← hD];exact Cn.ext_sv' s f s.size)
    clear hno hc hwl H hsl
    go_wp2_with (at_builtin;go_loud (refine wpList_append_reads rfl _ _ 40 rfl w.heap.size 9 i0 (.string ⟨#[]⟩) 1 16 Tryz.underlying40 hi hz0 hz1 hz2 rfl (by decide) _ ws.length _ rfl (owns_kept' HO.out ?_) _ 1 [.string (D)] rfl (reads_litq _ _ #[.string (D)] 9 1 1 (by decide) rfl ?_) ?_ ?_ ?_ ?_ ?_;(focus(exact bT));(focus(first|rfl|(simp;done)|(simp [more_size];done)));(focus(intro q hq;simp at hq;subst hq;rfl));(focus(unfold maxLen;omega));(focus omega);(focus(first|(simp;omega)|omega));intro v' w1 hown' hgrow))
    go_roundw
    case rel =>
     have hb3:=below_grown (HB.out.alloc (by omega) _) (by simp;omega) hgrow (owns_rows HO.out)
     have e:Cn.svs' (ws++[(s.data.toList.drop f).take (s.size - f)])=Cn.svs' ws++[.string D]:=by simp [Cn.svs',HD.out]
     refine⟨s.size+1,s.size+1,ws++[(s.data.toList.drop f).take (s.size - f)],by omega,by omega,by go_num,by go_num,hid ⟨hb3,?_,fun h=>by omega,fun _=>HC.out⟩⟩
     rw [e,List.length_append,List.length_singleton]
     exact hown'
    case measure=>(simp [intOf];try omega)
   ·have hk1:k=s.size+1:=by omega
    subst hk1
    have hfin:=H.out.fin (by omega)
    have HR:=hid (show Reads wr _ (Cn.cutW s.data.toList).length 1 (Cn.svs' (Cn.cutW s.data.toList))by rw [hfin];exact Reads.of_owns HO.out)
    clear hfin H hwl HO
    go_wp2
    go_ret
    exact⟨⟨_,rfl,HR.out⟩,more_of_below HB.out⟩
theorem rdigit_any(c:UInt8)(w:World):Calls Tryz.prog 32 #[.int .u8 (c.toNat:Int)] w fun e w'=>e=.returned (.int .i64 (Cn.ixD c))∧w'=w:=by
 have h256:=c.toNat_lt
 have h5:c.toNat<48∨(48≤c.toNat∧c.toNat≤57)∨(57<c.toNat∧c.toNat<97)∨(97≤c.toNat∧c.toNat≤102)∨102<c.toNat:=by omega
 rcases h5 with h|⟨h,h1⟩|⟨h,h1⟩|⟨h,h1⟩|h
 ·have hb:Cn.ixD c = -1:=Cn.ixD_none (by unfold As.ux;rw [if_neg (by omega),if_neg (by omega)])
  have i1:(c.toNat:Int)<48:=by omega
  have i2:(c.toNat:Int)<97:=by omega
  rw [hb]
  clear h256 h hb
  go_enter Tryz.func32,Tryz.ntmps32
  go_wp2
  go_ret
  exact⟨rfl,rfl⟩
 ·have hb:Cn.ixD c=(c.toNat:Int) - 48:=by
   have:=(Cn.ixD_some (c:=c) (d:=c.toNat - 48) (by unfold As.ux;rw [if_pos ⟨h,h1⟩])).1
   omega
  have i1:(48:Int)≤(c.toNat:Int):=by omega
  have i2:(c.toNat:Int)≤57:=by omega
  rw [hb]
  clear h256 h h1 hb
  go_enter Tryz.func32,Tryz.ntmps32
  go_wp2
  go_ret
  exact⟨rfl,rfl⟩
 ·have hb:Cn.ixD c = -1:=Cn.ixD_none (by unfold As.ux;rw [if_neg (by omega),if_neg (by omega)])
  have i0:(48:Int)≤(c.toNat:Int):=by omega
  have i1:(57:Int)<(c.toNat:Int):=by omega
  have i2:(c.toNat:Int)<97:=by omega
  rw [hb]
  clear h256 h h1 hb
  go_enter Tryz.func32,Tryz.ntmps32
  go_wp2
  go_ret
  exact⟨rfl,rfl⟩
 ·have hb:Cn.ixD c=(c.toNat:Int) - 97+10:=by
   have:=(Cn.ixD_some (c:=c) (d:=c.toNat - 87) (by unfold As.ux;rw [if_neg (by omega),if_pos ⟨h,h1⟩])).1
   omega
  have i0:(48:Int)≤(c.toNat:Int):=by omega
  have i1:(97:Int)≤(c.toNat:Int):=by omega
  have i2:(c.toNat:Int)≤102:=by omega
  have i3:(57:Int)<(c.toNat:Int):=by omega
  rw [hb]
  clear h256 h h1 hb
  go_enter Tryz.func32,Tryz.ntmps32
  go_wp2
  go_ret
  exact⟨rfl,rfl⟩
 ·have hb:Cn.ixD c = -1:=Cn.ixD_none (by unfold As.ux;rw [if_neg (by omega),if_neg (by omega)])
  have i0:(48:Int)≤(c.toNat:Int):=by omega
  have i1:(57:Int)<(c.toNat:Int):=by omega
  have i2:(97:Int)≤(c.toNat:Int):=by omega
  have i3:(102:Int)<(c.toNat:Int):=by omega
  rw [hb]
  clear h256 h hb
  go_enter Tryz.func32,Tryz.ntmps32
  go_wp2
  go_ret
  exact⟨rfl,rfl⟩
end Go.Proofs.YthkegfdijohpaaaGreatDoor
