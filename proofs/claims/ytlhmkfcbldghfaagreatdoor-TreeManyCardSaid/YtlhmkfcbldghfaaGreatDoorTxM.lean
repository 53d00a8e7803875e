/- The walk of the law TreeMany. Conditions: the library's variables are as they were laid. -/
import Derived.Test.YtlhmkfcbldghfaaGreatDoorSnI
import Derived.Test.YtlhmkfcbldghfaaGreatDoorTsM
namespace Go.Proofs.YtlhmkfcbldghfaaGreatDoor
set_option linter.all false
open Go.Lib (hid)
set_option maxRecDepth 1000000
set_option maxHeartbeats 16000000
open Go.RowKit
open Fr (fm_below tyM)
theorem bytes_extM{a b:ByteArray}(h:a.data.toList=b.data.toList):a=b:=by
 cases a;cases b;simpa using h
namespace Tr
def headB:List UInt8:=[77,79,68,85,76,69,32,77,59,32,66,69,71,73,78,32,120,32,58,61,32]
def mnA(k:Nat):ByteArray:=⟨(headB++List.replicate k (126:UInt8)).toArray⟩
def mnC(d j:Nat):ByteArray:=⟨(headB++(List.replicate d (126:UInt8)++121::(List.replicate j [59,32,122]).flatten)).toArray⟩
theorem bytes_app(a b:List UInt8):(⟨a.toArray⟩:ByteArray)++⟨b.toArray⟩=⟨(a++b).toArray⟩:=by
 apply bytes_extM
 simp
theorem rep_snoc{α:Type}(n:Nat)(a:α):List.replicate (n+1) a=List.replicate n a++[a]:=List.replicate_succ'
theorem mnA_succ(k:Nat):mnA (k+1)=mnA k++⟨#[126]⟩:=by
 show _=_++(⟨[126].toArray⟩:ByteArray)
 unfold mnA
 rw [bytes_app,rep_snoc,List.append_assoc]
theorem mnC_zero(d:Nat):mnC d 0=mnA d++⟨#[121]⟩:=by
 show _=_++(⟨[121].toArray⟩:ByteArray)
 unfold mnA mnC
 rw [bytes_app,List.append_assoc]
 rfl
theorem mnC_succ(d j:Nat):mnC d (j+1)=mnC d j++⟨#[59,32,122]⟩:=by
 show _=_++(⟨[59,32,122].toArray⟩:ByteArray)
 unfold mnC
 rw [bytes_app,rep_snoc,List.flatten_append]
 simp only [List.append_assoc,List.cons_append,List.flatten_cons,List.flatten_nil,List.append_nil,List.nil_append]
theorem many_whole(n d:Nat):mnC d n++⟨#[32,69,78,68,32,77,46]⟩=⟨(manyB n d).toArray⟩:=by
 show _++(⟨[32,69,78,68,32,77,46].toArray⟩:ByteArray)=_
 unfold mnC manyB headB
 rw [bytes_app]
 simp only [List.append_assoc,List.cons_append]
theorem mnA_size(k:Nat):(mnA k).size=21+k:=by
 show(headB++List.replicate k 126:List UInt8).toArray.size=_
 rw [List.size_toArray,List.length_append,List.length_replicate]
 rfl
theorem mnC_size(d j:Nat):(mnC d j).size=22+d+3 * j:=by
 show(headB++(List.replicate d 126++121::(List.replicate j [59,32,122]).flatten):List UInt8).toArray.size=_
 rw [List.size_toArray]
 simp only [List.length_append,List.length_cons,List.length_replicate,List.length_flatten,List.map_replicate,List.sum_replicate_nat,List.length_nil]
 have:headB.length=21:=rfl
 omega
theorem many_parse(n d:Nat)(hn:n≤80)(hd:d≤80):∃ m,SM ⟨[77],[],⟨[],[],[]⟩,[],asgX d::List.replicate n callZ,0⟩ m∧WM m∧limW m=(if 64<n+1 then 3 else if 64<d+2 then 4 else 0)∧walkW m=⟨4000 - (3+d+2 * n),d+2,decide (64<n+1)⟩∧m.body.length=n+1 ∧
  parseR (mnC d n++⟨#[32,69,78,68,32,77,46]⟩)=if limW m=0 then .ok m else .error (0,limW m):=by
 obtain⟨q,m,h1,h2,h3⟩:=many_read n d (by omega)
 have hw:=walk_al h3
 rw [many_walk n d hn hd]at hw
 have hl:=lim_al h3
 rw [many_lim n d hn hd]at hl
 have hs:(⟨(manyB n d).toArray⟩:ByteArray).size≤16384:=by
  rw [← many_whole,ByteArray.size_append,mnC_size]
  show 22+d+3 * n+7≤_
  omega
 have hx:Tk.lexR ⟨(manyB n d).toArray⟩=.ok q:=by
  unfold Tk.lexR
  rw [if_neg (by omega)]
  exact h1
 refine⟨m,h3,parsed_good _ (lexR_good hx).1 h2,hl.symm,hw.symm,?_,?_⟩
 ·have:=al_len h3.body
  simpa using this.symm
 ·rw [many_whole]
  unfold parseR
  rw [hx]
  simp only
  rw [show((⟨(manyB n d).toArray⟩:ByteArray).size:Int)=((manyB n d).length:Int)by show((manyB n d).toArray.size:Int)=_;simp,h2]
end Tr
theorem var_st{w X Y:World}{n:String}{cs cs0:Array Value}{gi:Nat}(hg:Tryz.prog.globalNamed n=some gi)(h0:w.var? Tryz.prog n=some cs0)(hb:∀ b,b<w.heap.size→Y.heap[b]?=X.heap[b]?)(h:X.var? Tryz.prog n=some cs):Y.var? Tryz.prog n=some cs:=by
 unfold World.var? at h0 h ⊢
 rw [hg]at h0 h ⊢
 simp only [Option.bind_some]at h0 h ⊢
 have hlt:gi<w.heap.size:=by
  rcases Nat.lt_or_ge gi w.heap.size with h'|h'
  ·exact h'
  ·rw [Array.getElem?_eq_none h']at h0;cases h0
 rw [hb gi hlt]
 exact h
theorem gx_st{w:World}(h:Gx w):∀ X Y:World,X.heap.size≤Y.heap.size→(∀ b,b<w.heap.size→Y.heap[b]?=X.heap[b]?)→Gx X→Gx Y:=by
 intro X Y _ hb hX
 obtain⟨ev0,a1,-⟩:=h.gs.err
 obtain⟨ev,a2,a3⟩:=hX.gs.err
 obtain⟨cs0,a4,-⟩:=h.dbr
 obtain⟨cs,a5,a6⟩:=hX.dbr
 exact⟨⟨var_st g_tab h.gs.tab hb hX.gs.tab,ev,var_st g_err a1 hb a2,a3⟩,var_st g_p10 h.p10 hb hX.p10,cs,var_st g_dbr a4 hb a5,a6⟩
theorem TreeMany_any(n deep:Int)(w:World)(hg:Gx w) :
  Calls Tryz.prog 5 #[.int .i64 n,.int .i64 deep] w fun e w'=>e=.returned (.bool true)∧Below w.heap.size w w':=by
 have HG:=hid hg
 have HF:=hid (Fr.fm_start w none (fun _=>True) (by simp) (fun _ _ _ _ h=>h) trivial)
 have HW:=hid (fun W hg=>wakes10_any W hg)
 have HGm:=hid trivial
 clear hg
 by_cases h1:n<0
 ·clear HGm
  go_enter Tryz.func5,Tryz.ntmps5
  go_wp2_with (first
   | (go_at_call 7;(with_reducible refine(HW.out _ (HG.out.gs.below (fm_below HF.out))).mono ?_);rintro e W1 ⟨rfl,hb⟩;replace HF:=hid (HF.out.below hb);clear hb))
  refine bodyPost_ret (v:=.bool true) (by simp [results,Tryz.results5,go_sem];try rfl) rfl ⟨rfl,fm_below HF.out⟩
 by_cases h2:80<n
 ·clear HGm
  go_enter Tryz.func5,Tryz.ntmps5
  go_wp2_with (first
   | (go_at_call 7;(with_reducible refine(HW.out _ (HG.out.gs.below (fm_below HF.out))).mono ?_);rintro e W1 ⟨rfl,hb⟩;replace HF:=hid (HF.out.below hb);clear hb))
  refine bodyPost_ret (v:=.bool true) (by simp [results,Tryz.results5,go_sem];try rfl) rfl ⟨rfl,fm_below HF.out⟩
 by_cases h3:deep<0
 ·clear HGm
  go_enter Tryz.func5,Tryz.ntmps5
  go_wp2_with (first
   | (go_at_call 7;(with_reducible refine(HW.out _ (HG.out.gs.below (fm_below HF.out))).mono ?_);rintro e W1 ⟨rfl,hb⟩;replace HF:=hid (HF.out.below hb);clear hb))
  refine bodyPost_ret (v:=.bool true) (by simp [results,Tryz.results5,go_sem];try rfl) rfl ⟨rfl,fm_below HF.out⟩
 by_cases h4:80<deep
 ·clear HGm
  go_enter Tryz.func5,Tryz.ntmps5
  go_wp2_with (first
   | (go_at_call 7;(with_reducible refine(HW.out _ (HG.out.gs.below (fm_below HF.out))).mono ?_);rintro e W1 ⟨rfl,hb⟩;replace HF:=hid (HF.out.below hb);clear hb))
  refine bodyPost_ret (v:=.bool true) (by simp [results,Tryz.results5,go_sem];try rfl) rfl ⟨rfl,fm_below HF.out⟩
 clear HGm
 obtain⟨N,rfl⟩:∃ N:Nat,n=N:=⟨n.toNat,by omega⟩
 obtain⟨d,rfl⟩:∃ d:Nat,deep=d:=⟨deep.toNat,by omega⟩
 have hN:N≤80:=by omega
 have hD:d≤80:=by omega
 obtain⟨m,-,hwm,hlim,hwk,hbl,hpr⟩:=Tr.many_parse N d hN hD
 have HPA:=hid (fun W hg=>parse_any (Tr.mnC d N++⟨#[32,69,78,68,32,77,46]⟩) W hg (by rw [ByteArray.size_append,Tr.mnC_size];show 22+d+3 * N+7 < _;omega))
 rw [hpr]at HPA
 have HWM:=hid hwm
 have HWK:=hid hwk
 have HA1:=hid Tr.mnA_succ
 have HC0:=hid (Tr.mnC_zero d)
 have HC1:=hid (Tr.mnC_succ d)
 have hA0:Tr.mnA 0=⟨#[77,79,68,85,76,69,32,77,59,32,66,69,71,73,78,32,120,32,58,61,32]⟩:=rfl
 have hsA:=hid Tr.mnA_size
 have hsC:=hid (Tr.mnC_size d)
 generalize Tr.mnA=A at hA0 HA1 HC0 hsA
 generalize Tr.mnC d=C at HPA HC0 HC1 hsC
 have HLM:=hid hlim
 clear hpr hwm hwk hlim
 go_enter Tryz.func5,Tryz.ntmps5
 go_wp2
 rw [← hA0]
 go_loopg [5,6] d (fun gm v5 v6 wr=>∃ k:Nat,gm=d - k∧k≤d∧v5=.string (A k)∧v6=.int .i64 k∧RowKit.Hid (Fr.Fm w none (fun _=>True) wr [] []))
 case atStart=>exact⟨0,by simp,by omega,rfl,rfl,HF⟩
 case round =>
  clear HF
  obtain⟨k,hgm,hk,rfl,rfl,HF⟩:=hrel
  have hsz:=hsA.out k
  have hsz1:((A k).size:Int)≤200:=by omega
  by_cases hlt:k<d
  ·have hki:(k:Int)<(d:Int):=by omega
   have hk0:(0:Int)≤(k:Int):=by omega
   have hk1:(k:Int)≤9223372036854775807:=by omega
   go_wp2
   go_roundg (d - (k+1))
   case rel=>exact⟨k+1,rfl,hlt,by rw [HA1.out],by simp,HF⟩
   case measure=>omega
  ·have hki:¬(k:Int)<(d:Int):=by omega
   obtain rfl:d=k:=by omega
   clear hlt hgm hk
   go_wp2
   rw [← HC0.out]
   go_loopg [5,7] N (fun gm v5 v7 wr=>∃ j:Nat,gm=N - j∧j≤N∧v5=.string (C j)∧v7=.int .i64 j∧RowKit.Hid (Fr.Fm w none (fun _=>True) wr [] []))
   case atStart=>exact⟨0,by simp,by omega,rfl,rfl,HF⟩
   case round =>
    clear HF hki hsz hsz1
    obtain⟨j,hgm,hj,rfl,rfl,HF⟩:=hrel
    have hsz:=hsC.out j
    have hsz1:((C j).size:Int)≤1000:=by omega
    by_cases hlt:j<N
    ·have hji:(j:Int)<(N:Int):=by omega
     have hj0:(0:Int)≤(j:Int):=by omega
     have hj1:(j:Int)≤9223372036854775807:=by omega
     go_wp2
     go_roundg (N - (j+1))
     case rel=>exact⟨j+1,rfl,hlt,by rw [HC1.out],by simp,HF⟩
     case measure=>omega
    ·have hji:¬(j:Int)<(N:Int):=by omega
     obtain rfl:N=j:=by omega
     clear hlt hgm hj
     by_cases hm:64<N+1
     ·have hm1:(64:Int)<(N:Int)+1:=by omega
      replace HLM:=hid (HLM.out.trans (if_pos hm))
      rw [HLM.out]at HPA
      clear hm
      replace HPA:=hid (fun W hg=>(HPA.out W hg).mono fun e w' h=>(show W.grownBy w' none∧e=.returned (.tuple #[.agg Fr.zM.toArray,.int .i64 0,.int .i64 3])from by rw [if_neg (by decide)]at h;exact h))
      go_wp2_with (first
       | (go_at_call 8;(with_reducible refine(HPA.out _ (HG.out.gs.below (fm_below HF.out))).mono ?_);rintro e W1 ⟨hgr,rfl⟩;replace HF:=hid (Fr.Fm.call (Kp':=(fun _=>True)) HF.out hgr (fun _ _ _ _ _=>trivial) trivial);clear hgr)
       | ((with_reducible refine Fr.is_alloc ?_);(refine Fr.wl_alloc HF.out tyM ?_);intro b1 W1 HF1;replace HF:=hid HF1;clear HF1)
       | ((with_reducible refine Fr.is_store (T:=30) ?_);(refine Fr.wl_store 0 HF.out tyM rfl rfl rfl rfl rfl (z4 rfl) (by intro v hv;simp [Fr.zM]at hv;rcases hv with rfl|rfl|rfl|rfl|rfl|rfl|rfl|rfl <;> rfl) ?_);intro W1 HF1;simp only [Fr.setL,z0,z1]at HF1;replace HF:=hid HF1;clear HF1)
       | (go_at_call 7;(with_reducible refine(HW.out _ (HG.out.gs.below (fm_below HF.out))).mono ?_);rintro e W1 ⟨rfl,hb⟩;replace HF:=hid (HF.out.below hb);clear hb))
      refine bodyPost_ret (v:=.bool true) (by simp [results,Tryz.results5,go_sem];try rfl) rfl ⟨rfl,fm_below HF.out⟩
     ·have hm1:¬(64:Int)<(N:Int)+1:=by omega
      replace HLM:=hid (HLM.out.trans (if_neg hm))
      by_cases hd2:64<d+2
      ·have hm2:(64:Int)<(d:Int)+2:=by omega
       replace HLM:=hid (HLM.out.trans (if_pos hd2))
       rw [HLM.out]at HPA
       clear hm hd2
       replace HPA:=hid (fun W hg=>(HPA.out W hg).mono fun e w' h=>(show W.grownBy w' none∧e=.returned (.tuple #[.agg Fr.zM.toArray,.int .i64 0,.int .i64 4])from by rw [if_neg (by decide)]at h;exact h))
       go_wp2_with (first
        | (go_at_call 8;(with_reducible refine(HPA.out _ (HG.out.gs.below (fm_below HF.out))).mono ?_);rintro e W1 ⟨hgr,rfl⟩;replace HF:=hid (Fr.Fm.call (Kp':=(fun _=>True)) HF.out hgr (fun _ _ _ _ _=>trivial) trivial);clear hgr)
        | ((with_reducible refine Fr.is_alloc ?_);(refine Fr.wl_alloc HF.out tyM ?_);intro b1 W1 HF1;replace HF:=hid HF1;clear HF1)
        | ((with_reducible refine Fr.is_store (T:=30) ?_);(refine Fr.wl_store 0 HF.out tyM rfl rfl rfl rfl rfl (z4 rfl) (by intro v hv;simp [Fr.zM]at hv;rcases hv with rfl|rfl|rfl|rfl|rfl|rfl|rfl|rfl <;> rfl) ?_);intro W1 HF1;simp only [Fr.setL,z0,z1]at HF1;replace HF:=hid HF1;clear HF1)
        | (go_at_call 7;(with_reducible refine(HW.out _ (HG.out.gs.below (fm_below HF.out))).mono ?_);rintro e W1 ⟨rfl,hb⟩;replace HF:=hid (HF.out.below hb);clear hb))
       refine bodyPost_ret (v:=.bool true) (by simp [results,Tryz.results5,go_sem];try rfl) rfl ⟨rfl,fm_below HF.out⟩
      ·have hm2:¬(64:Int)<(d:Int)+2:=by omega
       replace HLM:=hid (HLM.out.trans (if_neg hd2))
       rw [HLM.out]at HPA
       have HCK:=hid (fun(W:World) (R:List Fr.RI) (v1 v2 v3 v4 v5 v6:Value) h=>check_yes m HWM.out HLM.out (w:=w) (W:=W) (g:=none) (R:=R) (Ds:=[]) v1 v2 v3 v4 v5 v6 m.pos h)
       have HSZ:=hid (fun(W:World) (R:List Fr.RI) (v1 v2 v3 v4 v5 v6:Value) h=>size_any m (by rw [HWK.out];simp only;omega) (by rw [HWK.out];simp only;omega) (w:=w) (W:=W) (g:=none) (Kp:=Gx) (R:=R) (Ds:=[]) ⟨m.name.toArray⟩ v1 v2 v3 v4 v5 v6 m.pos h)
       rw [HWK.out]at HSZ
       simp only at HSZ
       have e4:(4000:Int) - (4000 - (3+(d:Int)+2 * (N:Int)))=3+d+2 * N:=by omega
       rw [e4]at HSZ
       replace HF:RowKit.Hid (Fr.Fm w none Gx _ [] []):=hid (Fr.Fm.call (Kp':=Gx) HF.out ⟨rfl,rfl,rfl,Nat.le_refl _,fun _ _ _=>rfl⟩ (gx_st HG.out) (HG.out.below (fm_below HF.out)))
       clear hm hd2 e4
       replace HPA:=hid (fun W hg=>(HPA.out W hg).mono fun e w' h=>(show W.grownBy w' none∧∃ v,e=.returned (.tuple #[v,.int .i64 0,.int .i64 0])∧Fr.VMo W.heap.size w' v m from h))
       go_wp2_with (first
        | (go_at_call 8;(with_reducible refine(HPA.out _ HF.out.kp.gs).mono ?_);rintro e W1 ⟨hgr,v,rfl,hV⟩;obtain⟨v1,v2,v3,v4,v5,v6,rfl,hd0,hd1,hd2,hd3,hd4,hd5⟩:=Fr.VMo.parts hV;have HF0:=HF.out;have HF2:=Fr.Fm.call (Kp':=Gx) HF0 hgr HF0.st (HF0.kp.below ⟨hgr.os,hgr.tape,hgr.output,hgr.size,fun k hk=>hgr.block k hk (by simp)⟩);replace HF:=hid (HF0.since (HF0.since (HF0.since (HF0.since (HF0.since (HF0.since HF2 hd5) hd4) hd3) hd2) hd1) hd0);clear hgr hV hd0 hd1 hd2 hd3 hd4 hd5 HF0 HF2;obtain⟨p6,c6,rfl,-,-⟩:=HF.out.daSlice (m:=5) rfl;simp only [Tr.stDs_length,hbl]at HF ⊢)
        | ((with_reducible refine Fr.is_alloc ?_);(refine Fr.wl_alloc HF.out tyM ?_);intro b1 W1 HF1;replace HF:=hid HF1;clear HF1)
        | ((with_reducible refine Fr.is_store (T:=30) ?_);(refine Fr.wl_store 0 HF.out tyM rfl rfl rfl rfl rfl (z4 rfl) (by repeat' (first|exact z3 _|refine z2 ?_ ?_|rfl|(refine HF.out.oneM ?_;simp;done))) ?_);intro W1 HF1;simp only [Fr.setL,z0,z1]at HF1;replace HF:=hid HF1;clear HF1;have e6:=HF.out.cellAt 0 rfl 6 rfl)
        | ((with_reducible refine Fr.is_loadW (T:=30) ?_);(refine Fr.wl_want (by rfl) ?_);(refine Fr.wl_load 0 HF.out rfl rfl Tryz.underlying30 rfl tyM rfl ?_))
        | (go_at_call 15;(with_reducible refine(HSZ.out _ _ _ _ _ _ _ _ HF.out).mono ?_);rintro e W3 ⟨rfl,HF1⟩;replace HF:=hid HF1;clear HF1)
        | (go_at_call 16;(with_reducible refine(HCK.out _ _ _ _ _ _ _ _ HF.out).mono ?_);rintro e W3 ⟨rfl,HF1⟩;replace HF:=hid HF1;clear HF1)
        | (go_at_call 7;(with_reducible refine(HW.out _ (HF.out.kp.gs)).mono ?_);rintro e W1 ⟨rfl,hb⟩;replace HF:=hid (HF.out.below hb);clear hb))
       refine bodyPost_ret (v:=.bool true) (by simp [results,Tryz.results5,go_sem];try rfl) rfl ⟨rfl,fm_below HF.out⟩
end Go.Proofs.YtlhmkfcbldghfaaGreatDoor
