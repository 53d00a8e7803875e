/- The walk of tree's walker's stats,at all lists. Conditions: the list is told. -/
import Derived.Test.YtlhmkfcbldghfaaGreatDoorTwX
import Derived.Test.YtlhmkfcbldghfaaGreatDoorTuIb
import Derived.Test.YtlhmkfcbldghfaaGreatDoorTuZ
namespace Go.Proofs.YtlhmkfcbldghfaaGreatDoor
set_option linter.all false
open Go.Lib (hid)
set_option maxRecDepth 1000000
set_option maxHeartbeats 16000000
open Go.RowKit
open Fr (is_box is_int is_lit is_load is_str row_inv setL tkM tyInt tyM tyT wE wT wl_box wl_lit1 wl_load wl_load1)
open Tr (cnD exsW fdD fdDs fdsW prD stDs tyD wkC)
abbrev WkSt(ss:List Tr.St):Prop:=∀{w W:World} {g:Option Nat} {Kp:World→Prop} {R:List Fr.RI} {Ds:List (Value × Da.D)} (bw:Nat) (x:Tr.Wk) (m:Nat) (v:Value) (d:Int) (_:Ds[m]?=some (v,Da.D.list 6 (stDs ss))) (_:Fr.Fm w g Kp W (.blk bw (wkC x)::R) Ds),
  Calls Tryz.prog 116 #[.pointer (some ⟨bw,0,none⟩),v,.int .i64 d] W fun e W'=>e=.returned (.tuple #[])∧Fr.Fm w g Kp W' (.blk bw (wkC (Tr.stsW ss d x))::R) Ds
theorem stats_step(ss:List Tr.St)(ih:∀ us:List Tr.St,SizeOf.sizeOf us<SizeOf.sizeOf ss→WkSt us):WkSt ss:=by
 intro w W g Kp R Ds bw x m v d hd h
 obtain⟨p,c,rfl,hl,hp⟩:=h.daSlice hd
 rw [Fr.stDs_len]at hl hp hd ⊢
 obtain⟨Y,hY⟩:∃ Y,Y=Tr.stsW ss d x:=⟨_,rfl⟩
 rw [← hY]
 unfold Tr.stsW at hY
 have HF:=hid h
 have HD:=hid hd
 have HP:=hid hp
 have HR:=hid ih
 have HY0:=hid hY
 have hl2:(ss.length:Int)≤9223372036854775807:=by omega
 clear h hd hp hY ih
 go_enter Tryz.func116,Tryz.ntmps116
 go_wp2_with (first
  | ((with_reducible refine is_lit ?_);(refine wl_lit1 HF.out Tryz.underlying219 tyInt (by simp) (by simp) rfl rfl rfl [.int (ss.length:Int)] (by exact Da.row_cons (Da.Is.int _) (Da.row_nil _ _)) ?_);intro b5 W1 HF1;replace HF:=hid HF1;clear HF1)
  | (go_at_call 113;(with_reducible refine(list_any bw _ 0 _ [ss.length] (by simp;omega) rfl HF.out).mono ?_);rintro e W1 ⟨rfl,HF1⟩;replace HF:=hid HF1.less;clear HF1))
 go_loopg [19] ss.length (fun gm v9 wr=>∃(k:Nat) (y:Tr.Wk),gm=ss.length - k∧k≤ss.length∧v9=.int .i64 k∧RowKit.Hid (Y=Tr.stsL (ss.drop k) d y)∧RowKit.Hid (Fr.Fm w g Kp wr (.blk bw (wkC y)::R) Ds))
 case atStart=>exact⟨0,_,by simp,by omega,rfl,HY0,HF⟩
 case round =>
  clear HF HY0
  obtain⟨k,y,hg,hk,rfl,HY,HF⟩:=hrel
  by_cases hlt:k<ss.length
  ·obtain⟨b,off,rfl⟩:=HP.out (by omega)
   have hki:(k:Int)<(ss.length:Int):=by omega
   have hk0:(0:Int)≤(k:Int):=by omega
   have hk1:(k:Int)≤9223372036854775807:=by omega
   have hY1:=HY.out
   rw [List.drop_eq_getElem_cons hlt]at hY1
   have hmem:ss[k]∈ss:=List.getElem_mem hlt
   have hi:(stDs ss)[k]?=some (Tr.stD ss[k]):=by rw [Tr.stDs_map];simp [hlt]
   generalize ss[k]=e0 at hY1 hmem hi
   obtain⟨kd,n0,es,ls,bs,q0⟩:=e0
   have hsz:=List.sizeOf_lt_of_mem hmem
   simp only [Tr.St.mk.sizeOf_spec]at hsz
   unfold Tr.stsL at hY1
   unfold Tr.stD at hi
   clear hmem HY
   by_cases hneg:(Tr.nodeW d y).left<0
   ·have hdec:decide (0≤(Tr.nodeW d y).left)=false:=decide_eq_false (by omega)
    rw [if_pos hneg]at hY1
    have HY:=hid hY1
    clear hY1
    go_wp2_with (first
     | (go_at_call 152;(with_reducible refine(node_any bw _ d HF.out).mono ?_);rintro e W1 ⟨he,HF1⟩;rw [hdec]at he;subst he;replace HF:=hid HF1;clear HF1))
    refine bodyPost_ret (v:=.tuple #[]) (by simp [results,Tryz.results116,go_sem]) rfl ⟨rfl,?_⟩
    rw [HY.out]
    exact HF.out
   ·have hdec:decide (0≤(Tr.nodeW d y).left)=true:=decide_eq_true (by omega)
    rw [if_neg hneg]at hY1
    have HY:=hid hY1
    clear hY1
    go_wp2_with (first
     | (go_at_call 152;(with_reducible refine(node_any bw _ d HF.out).mono ?_);rintro e W1 ⟨he,HF1⟩;rw [hdec]at he;subst he;replace HF:=hid HF1;clear HF1))
    obtain⟨v0,c0,hb0,HF1⟩:=HF.out.fieldCell HD.out k 3 hi rfl
    obtain⟨v1,c1,_,HF2⟩:=HF.out.fieldCell HD.out k 4 hi rfl
    obtain⟨v2,c2,_,HF3⟩:=HF.out.fieldCell HD.out k 2 hi rfl
    obtain⟨p0,d0,rfl,g0,-⟩:=HF1.daSlice (m:=0) rfl
    obtain⟨p1,d1,rfl,g1,-⟩:=HF2.daSlice (m:=0) rfl
    obtain⟨p2,d2,rfl,g2,-⟩:=HF3.daSlice (m:=0) rfl
    simp only [List.length_map,Fr.blDs_len,Fr.exDs_len']at c0 c1 c2 g0 g1 g2
    clear HF1 HF2 HF3
    replace HF:=hid HF.out.drew
    refine wp_region_G (UpTo 16 (fun X=>X.cell? ⟨b,off+k * 6+3,none⟩=some (.slice p0 ls.length d0)∧X.cell? ⟨b,off+k * 6+4,none⟩=some (.slice p1 bs.length d1)∧X.cell? ⟨b,off+k * 6+2,none⟩=some (.slice p2 es.length d2))) 18 (by kernel_rfl) (by kernel_rfl) (fun _=>⟨c0,c1,c2⟩) (fun _ hS=>?_)
    generalize World.drew _=W1 at HF hS ⊢
    refine tkM (n:=18) (is:=[0,1,2,3]) (k:=4) rfl (by kernel_rfl) hS ?_
    repeat(refine wT (v:=?_) rfl (by rfl) (fun X xb=>?_) ?_;rotate_left 1;(focus(go_simp;try with_reducible rfl));try simp only [Act.put,zA,z0,z1])
    refine wE fun hS=>?_
    refine Fr.tkB (n:=18) (is:=[4]) [[5,4]] (k:=1) rfl (by kernel_rfl) hS ?_
    repeat(refine wT (v:=?_) rfl (by rfl) (fun X xb=>?_) ?_;rotate_left 1;(focus(go_simp;try with_reducible rfl));try simp only [Act.put,zA,z0,z1])
    refine wE fun hS=>?_
    refine tkM (n:=18) (is:=[5,6,7,8]) (k:=4) rfl (by kernel_rfl) hS ?_
    repeat(refine wT (v:=?_) rfl (by rfl) (fun X xb=>?_) ?_;rotate_left 1;(focus(go_simp;try with_reducible rfl));try simp only [Act.put,zA,z0,z1])
    refine wE fun hS=>?_
    refine Fr.tkB (n:=18) (is:=[9]) [[10,9]] (k:=1) rfl (by kernel_rfl) hS ?_
    repeat(refine wT (v:=?_) rfl (by rfl) (fun X xb=>?_) ?_;rotate_left 1;(focus(go_simp;try with_reducible rfl));try simp only [Act.put,zA,z0,z1])
    refine wE fun hS=>?_
    refine tkM (n:=18) (is:=[10,11,12,13]) (k:=4) rfl (by kernel_rfl) hS ?_
    repeat(refine wT (v:=?_) rfl (by rfl) (fun X xb=>?_) ?_;rotate_left 1;(focus(go_simp;try with_reducible rfl));try simp only [Act.put,zA,z0,z1])
    refine wE fun hS=>?_
    refine Fr.tkB (n:=18) (is:=[14]) [[15,14]] (k:=1) rfl (by kernel_rfl) hS ?_
    repeat(refine wT (v:=?_) rfl (by rfl) (fun X xb=>?_) ?_;rotate_left 1;(focus(go_simp;try with_reducible rfl));try simp only [Act.put,zA,z0,z1])
    refine wE fun hS=>?_
    refine tkM (n:=18) (is:=[15]) (k:=1) rfl (by kernel_rfl) hS ?_
    repeat(refine wT (v:=?_) rfl (by rfl) (fun X xb=>?_) ?_;rotate_left 1;(focus(go_simp;try with_reducible rfl));try simp only [Act.put,zA,z0,z1])
    refine wE fun hS=>?_
    refine rd1 (i:=16) (by kernel_rfl) (.cons rfl (fun K hK=>?_) .nil)
    refine(if_pos (by rfl)).mpr ?_
    refine Fr.ow_int3 HF.out Tryz.underlying219 tyInt (z0:=(ls.length:Int)) (z1:=(bs.length:Int)) (z2:=(es.length:Int)) rfl rfl rfl rfl ?_
    intro b5 W1 HF1
    replace HF:=hid HF1;clear HF1
    refine hK.out _ _ (fun h=>absurd h (by simp [Fr.setAll])) fun hS=>?_;clear hK K
    try simp only [Act.put,zA,z0,z1]
    refine rd1 (i:=17) (by kernel_rfl) (.cons rfl (fun K hK=>?_) .nil)
    go_simp
    (go_at_call 113;(with_reducible refine(list_any bw _ 0 _ [ls.length,bs.length,es.length] (by simp;omega) rfl HF.out).mono ?_);rintro e W1 ⟨rfl,HF1⟩;replace HF:=hid HF1.less;clear HF1)
    go_simp
    refine hK.out _ _ (fun h=>absurd h (by simp [Fr.setAll])) fun hS=>?_;clear hK K
    try simp only [Act.put,zA,z0,z1]
    refine wpAnyG_done (by kernel_rfl) ?_ _
    clear hS
    clear c0 c1 c2
    go_wp2_with (first
     | ((with_reducible refine is_load (T:=47) ?_);(refine Fr.wl_fieldAt m HF.out HD.out k 2 rfl (by first|rfl|omega) hi rfl Tryz.underlying47 rfl ?_);intro v9 HF1;replace HF:=hid HF1;clear HF1)
     | ((with_reducible refine is_load (T:=48) ?_);(refine Fr.wl_fieldAt m HF.out HD.out k 3 rfl (by first|rfl|omega) hi rfl Tryz.underlying48 rfl ?_);intro v9 HF1;obtain⟨p3,c3,rfl,hl3,hp3⟩:=Fr.Fm.daSlice (m:=0) HF1 rfl;simp only [List.length_map,Fr.blDs_len]at HF1 hl3 hp3 ⊢;replace HF:=hid HF1;have HP3:=hid hp3;clear HF1 hp3)
     | (go_at_call 117;(with_reducible refine(exprs_all es bw _ 0 _ _ rfl HF.out).mono ?_);rintro e W1 ⟨rfl,HF1⟩;replace HF:=hid HF1.less;clear HF1))
    obtain⟨Z,hZ⟩:∃ Z,Z=Tr.labW ls (Tr.up d) (exsW es (Tr.up d) (Tr.listsW [ls.length,bs.length,es.length] (Tr.nodeW d y))):=⟨_,rfl⟩
    have HYZ:=hid (show Y=Tr.stsL (List.drop (k+1) ss) d (Tr.blsW bs (Tr.up d) Z)by rw [HY.out,hZ];rfl)
    have HZ:=hid hZ
    clear hZ HY
    go_loopg [60] ls.length (fun gm v9 wr=>∃(j:Nat) (z:Tr.Wk),gm=ls.length - j∧j≤ls.length∧v9=.int .i64 j∧RowKit.Hid (Z=Tr.labW (ls.drop j) (Tr.up d) z)∧RowKit.Hid (Fr.Fm w g Kp wr (.blk bw (wkC z)::R) ((.slice p3 ls.length c3,Da.D.list 1 (ls.map fun l=>[Da.D.list 6 (Tr.exDs l)]))::Ds)))
    case atStart=>exact⟨0,_,by simp,by omega,rfl,HZ,HF⟩
    case round =>
     have HG:=hid hg
     clear HF HZ hg
     obtain⟨j,z,hg,hj,rfl,HZ,HF⟩:=hrel
     by_cases hjl:j<ls.length
     ·obtain⟨b6,off6,rfl⟩:=HP3.out (by omega)
      have hji:(j:Int)<(ls.length:Int):=by omega
      have hj0:(0:Int)≤(j:Int):=by omega
      have hj1:(j:Int)≤9223372036854775807:=by omega
      have hZ1:=HZ.out
      rw [List.drop_eq_getElem_cons hjl]at hZ1
      have hi2:(ls.map fun l=>[Da.D.list 6 (Tr.exDs l)])[j]?=some [Da.D.list 6 (Tr.exDs ls[j])]:=by simp [hjl]
      generalize ls[j]=l0 at hZ1 hi2
      have HZ2:=hid (show Z=Tr.labW (ls.drop (j+1)) (Tr.up d) (exsW l0 (Tr.up d) (Tr.listsW [l0.length] z))from hZ1)
      clear hZ1 HZ
      go_wp2_with (first
       | ((with_reducible refine is_load (T:=47) ?_);(refine Fr.wl_fieldAt 0 HF.out rfl j 0 rfl (by first|rfl|omega) hi2 rfl Tryz.underlying47 rfl ?_);intro v5 HF1;obtain⟨p5,c5,rfl,hl5,-⟩:=Fr.Fm.daSlice (m:=0) HF1 rfl;rw [Fr.exDs_len']at hl5;simp only [Fr.exDs_len']at HF1 ⊢;replace HF:=hid HF1;clear HF1)
       | ((with_reducible refine is_lit ?_);(refine wl_lit1 HF.out Tryz.underlying219 tyInt (by simp) (by simp) rfl rfl rfl [.int (l0.length:Int)] (by exact Da.row_cons (Da.Is.int _) (Da.row_nil _ _)) ?_);intro b5 W1 HF1;replace HF:=hid HF1;clear HF1)
       | (go_at_call 113;(with_reducible refine(list_any bw _ 0 _ [l0.length] (by simp;omega) rfl HF.out).mono ?_);rintro e W1 ⟨rfl,HF1⟩;replace HF:=hid HF1.less;clear HF1)
       | (go_at_call 117;(with_reducible refine(exprs_all l0 bw _ 0 _ _ rfl HF.out).mono ?_);rintro e W1 ⟨rfl,HF1⟩;replace HF:=hid HF1.less;clear HF1))
      go_roundg (ls.length - (j+1))
      case rel=>exact⟨j+1,_,rfl,hjl,by simp,HZ2,HF⟩
      case measure=>omega
     ·have hji:¬(j:Int)<(ls.length:Int):=by omega
      have h1:=HZ.out
      rw [List.drop_eq_nil_of_le (by omega)]at h1
      unfold Tr.labW at h1
      subst h1
      replace HF:=hid HF.out.less
      go_wp2_with (first
       | ((with_reducible refine is_load (T:=49) ?_);(refine Fr.wl_fieldAt m HF.out HD.out k 4 rfl (by first|rfl|omega) hi rfl Tryz.underlying49 rfl ?_);intro v9 HF1;obtain⟨p4,c4,rfl,hl4,hp4⟩:=Fr.Fm.daSlice (m:=0) HF1 rfl;simp only [List.length_map,Fr.blDs_len]at HF1 hl4 hp4 ⊢;replace HF:=hid HF1;have HP4:=hid hp4;clear HF1 hp4))
      obtain⟨Z2,hZ2⟩:∃ Z2,Z2=Tr.blsW bs (Tr.up d) Z:=⟨_,rfl⟩
      rw [← hZ2]at HYZ
      have HZ2:=hid hZ2
      clear hZ2 hg hj hji
      go_loopg [80] bs.length (fun gm v9 wr=>∃(j:Nat) (z:Tr.Wk),gm=bs.length - j∧j≤bs.length∧v9=.int .i64 j∧RowKit.Hid (Z2=Tr.blsW (bs.drop j) (Tr.up d) z)∧RowKit.Hid (Fr.Fm w g Kp wr (.blk bw (wkC z)::R) ((.slice p4 bs.length c4,Da.D.list 1 (Tr.blDs bs))::Ds)))
      case atStart=>exact⟨0,_,by simp,by omega,rfl,HZ2,HF⟩
      case round =>
       clear HF HZ2
       obtain⟨j,z,hg,hj,rfl,HZ,HF⟩:=hrel
       by_cases hjl:j<bs.length
       ·obtain⟨b6,off6,rfl⟩:=HP4.out (by omega)
        have hji:(j:Int)<(bs.length:Int):=by omega
        have hj0:(0:Int)≤(j:Int):=by omega
        have hj1:(j:Int)≤9223372036854775807:=by omega
        have hZ1:=HZ.out
        rw [List.drop_eq_getElem_cons hjl]at hZ1
        have hmb:bs[j]∈bs:=List.getElem_mem hjl
        have hi2:(Tr.blDs bs)[j]?=some [Da.D.list 6 (stDs bs[j])]:=by rw [Tr.blDs_map];simp [hjl]
        generalize bs[j]=l0 at hZ1 hi2 hmb
        have hsz2:SizeOf.sizeOf l0<SizeOf.sizeOf ss:=by have:=List.sizeOf_lt_of_mem hmb;omega
        have HZ3:=hid (show Z2=Tr.blsW (bs.drop (j+1)) (Tr.up d) (Tr.stsW l0 (Tr.up d) z)from hZ1)
        clear hZ1 HZ hmb
        go_wp2_with (first
         | ((with_reducible refine is_load (T:=28) ?_);(refine Fr.wl_fieldAt 0 HF.out rfl j 0 rfl (by first|rfl|omega) hi2 rfl Tryz.underlying28 rfl ?_);intro v5 HF1;replace HF:=hid HF1;clear HF1)
         | (go_at_call 116;(with_reducible refine(HR.out l0 hsz2 bw _ 0 _ _ rfl HF.out).mono ?_);rintro e W1 ⟨rfl,HF1⟩;replace HF:=hid HF1.less;clear HF1))
        go_roundg (bs.length - (j+1))
        case rel=>exact⟨j+1,_,rfl,hjl,by simp,HZ3,HF⟩
        case measure=>omega
       ·have hji:¬(j:Int)<(bs.length:Int):=by omega
        have h1:=HZ.out
        rw [List.drop_eq_nil_of_le (by omega)]at h1
        unfold Tr.blsW at h1
        subst h1
        replace HF:=hid HF.out.less
        go_wp2
        go_roundg (ss.length - (k+1))
        case rel=>exact⟨k+1,_,rfl,hlt,by simp,HYZ,HF⟩
        case measure=>have:=HG.out;omega
  ·have hki:¬(k:Int)<(ss.length:Int):=by omega
   have h1:=HY.out
   rw [List.drop_eq_nil_of_le (by omega)]at h1
   unfold Tr.stsL at h1
   go_wp2
   go_end0
   exact⟨rfl,by first|exact HF.out|(rw [h1];exact HF.out)⟩
theorem stats_all:∀ ss:List Tr.St,WkSt ss:=by
 have key:∀(n:Nat) (ss:List Tr.St),SizeOf.sizeOf ss<n→WkSt ss:=by
  intro n
  induction n with
  | zero=>intro ss h;omega
  | succ n ih=>intro ss h;exact stats_step ss (fun us hu=>ih us (by omega))
 exact fun ss=>key _ ss (Nat.lt_succ_self _)
theorem wdecls_any(cs:List (List UInt8 × Bool × Tr.Ex × Int))(ts vs:List (List UInt8 × Bool × Tr.Ty × Int)){w W:World}{g:Option Nat}{Kp:World→Prop}{R:List Fr.RI}{Ds:List (Value × Da.D)}(bw:Nat)(x:Tr.Wk)(m1 m2 m3:Nat)(v1 v2 v3:Value)(hd1:Ds[m1]?=some (v1,Da.D.list 9 (cs.map cnD)))(hd2:Ds[m2]?=some (v2,Da.D.list 13 (fdDs ts)))(hd3:Ds[m3]?=some (v3,Da.D.list 13 (fdDs vs)))(h:Fr.Fm w g Kp W (.blk bw (wkC x)::R) Ds) :
  Calls Tryz.prog 114 #[.pointer (some ⟨bw,0,none⟩),v1,v2,v3] W fun e W'=>e=.returned (.tuple #[])∧Fr.Fm w g Kp W' (.blk bw (wkC (fdsW vs 1 (fdsW ts 1 (Tr.cnsW cs (Tr.listsW [cs.length,ts.length,vs.length] x)))))::R) Ds:=by
 obtain⟨p1,c1,rfl,hl1,hp1⟩:=h.daSlice hd1
 obtain⟨p2,c2,rfl,hl2,hp2⟩:=h.daSlice hd2
 obtain⟨p3,c3,rfl,hl3,hp3⟩:=h.daSlice hd3
 rw [List.length_map]at hl1 hp1 hd1 ⊢
 rw [Fr.fdDs_len']at hl2 hp2 hd2 hl3 hp3 hd3 ⊢
 rw [Fr.fdDs_len'] 
 obtain⟨Y1,hY1⟩:∃ Y1,Y1=Tr.cnsW cs (Tr.listsW [cs.length,ts.length,vs.length] x):=⟨_,rfl⟩
 obtain⟨Y2,hY2⟩:∃ Y2,Y2=fdsW ts 1 Y1:=⟨_,rfl⟩
 obtain⟨Y3,hY3⟩:∃ Y3,Y3=fdsW vs 1 Y2:=⟨_,rfl⟩
 rw [← hY1,← hY2,← hY3]
 have HY2:=hid hY2
 have HY3:=hid hY3
 have HF:=hid h
 have HD1:=hid hd1
 have HD2:=hid hd2
 have HD3:=hid hd3
 have HP1:=hid hp1
 have HP2:=hid hp2
 have HP3:=hid hp3
 have HY1:=hid hY1
 have hn1:(cs.length:Int)≤9223372036854775807:=by omega
 have hn2:(ts.length:Int)≤9223372036854775807:=by omega
 have hn3:(vs.length:Int)≤9223372036854775807:=by omega
 clear h hd1 hd2 hd3 hp1 hp2 hp3 hY1 hY2 hY3
 go_enter Tryz.func114,Tryz.ntmps114
 go_wp2_with (first
  | ((with_reducible refine is_lit ?_);(refine Fr.wl_int3 HF.out Tryz.underlying219 tyInt (z0:=(cs.length:Int)) (z1:=(ts.length:Int)) (z2:=(vs.length:Int)) rfl rfl rfl ?_);intro b5 W1 HF1;replace HF:=hid HF1;clear HF1)
  | (go_at_call 113;(with_reducible refine(list_any bw _ 0 _ [cs.length,ts.length,vs.length] (by simp;omega) rfl HF.out).mono ?_);rintro e W1 ⟨rfl,HF1⟩;replace HF:=hid HF1.less;clear HF1))
 go_loopg [25] cs.length (fun gm v9 wr=>∃(k:Nat) (y:Tr.Wk),gm=cs.length - k∧k≤cs.length∧v9=.int .i64 k∧RowKit.Hid (Y1=Tr.cnsW (cs.drop k) y)∧RowKit.Hid (Fr.Fm w g Kp wr (.blk bw (wkC y)::R) Ds))
 case atStart=>exact⟨0,_,by simp,by omega,rfl,HY1,HF⟩
 case round =>
  clear HF HY1
  obtain⟨k,y,hg,hk,rfl,HY,HF⟩:=hrel
  by_cases hlt:k<cs.length
  ·obtain⟨b,off,rfl⟩:=HP1.out (by omega)
   have hki:(k:Int)<(cs.length:Int):=by omega
   have hk0:(0:Int)≤(k:Int):=by omega
   have hk1:(k:Int)≤9223372036854775807:=by omega
   have hY1:=HY.out
   rw [List.drop_eq_getElem_cons hlt]at hY1
   have hi:(cs.map cnD)[k]?=some (cnD cs[k]):=by simp [hlt]
   generalize cs[k]=e0 at hY1 hi
   obtain⟨nm,ex,⟨kd,n0,tx,op,xs,q0⟩,p0⟩:=e0
   have HY2:=hid (show Y1=Tr.cnsW (cs.drop (k+1)) (exsW [.mk kd n0 tx op xs q0] 1 y)from hY1)
   unfold cnD at hi
   simp only [Tr.exD,List.cons_append,List.nil_append]at hi
   clear hY1 HY
   go_wp2_with (first
    | ((with_reducible refine is_load (T:=120) ?_);(refine Fr.wl_loadAt m1 HF.out HD1.out k rfl (by first|rfl|omega) hi Tryz.underlying120 rfl Fr.tyC rfl ?_);intro css hrow;obtain⟨c0,_,rfl,h0,hrow⟩:=row_inv hrow;obtain⟨c1,_,rfl,h1,hrow⟩:=row_inv hrow;obtain⟨c2,_,rfl,h2,hrow⟩:=row_inv hrow;obtain⟨c3,_,rfl,h3,hrow⟩:=row_inv hrow;obtain⟨c4,_,rfl,h4,hrow⟩:=row_inv hrow;obtain⟨c5,_,rfl,h5,hrow⟩:=row_inv hrow;obtain⟨c6,_,rfl,h6,hrow⟩:=row_inv hrow;obtain⟨c7,_,rfl,h7,hrow⟩:=row_inv hrow;obtain⟨c8,_,rfl,h8,hrow⟩:=row_inv hrow;obtain rfl:=Fr.row_inv0 hrow;obtain rfl:=is_str h0;obtain rfl:=is_str h4;obtain rfl:=is_str h5;obtain rfl:=Fr.is_bool h1;obtain rfl:=is_int h2;obtain rfl:=is_int h3;obtain rfl:=is_int h7;obtain rfl:=is_int h8;replace HF:=hid (Fr.Fm.plus HF.out h6);clear h0 h1 h2 h3 h4 h5 h6 h7 h8 hrow)
    | ((with_reducible refine Fr.is_alloc ?_);(first|(refine Fr.wl_alloc HF.out Fr.tyC ?_));intro b9 W1 HF1;replace HF:=hid HF1;clear HF1)
    | (first|((with_reducible refine Fr.is_store (T:=120) ?_);(first|(refine Fr.wl_store 0 HF.out Fr.tyC rfl rfl rfl rfl rfl (z4 rfl) (by repeat' (first|exact z3 _|refine z2 ?_ ?_|rfl|exact(HF.out.da 0 _ _ rfl).one)) ?_));intro W1 HF1;simp only [setL,z0,z1]at HF1;replace HF:=hid HF1;clear HF1))
    | ((with_reducible refine is_load (T:=53) ?_);(refine Fr.wl_loadSub 0 HF.out rfl rfl (vs:=[.int .i64 kd,.int .i64 n0,.string ⟨tx.toArray⟩,.string ⟨op.toArray⟩,c6,.int .i64 q0]) rfl Tryz.underlying53 rfl Fr.tyE rfl ?_))
    | ((with_reducible refine is_lit ?_);(refine wl_lit1 HF.out Tryz.underlying47 Fr.tyE (by simp) (by simp) rfl rfl rfl (Tr.exD (.mk kd n0 tx op xs q0)) ?_ ?_);(focus(simp only [Tr.exD];(repeat' (first|exact Da.row_nil _ _|exact Da.Is.int _|exact Da.Is.str _|exact HF.out.da 0 _ _ rfl|refine Da.row_cons ?_ ?_))));intro b W1 HF1;replace HF:=hid HF1;clear HF1)
    | (go_at_call 117;(with_reducible refine(exprs_all [(.mk kd n0 tx op xs q0)] bw _ 0 _ 1 rfl HF.out.lessR).mono ?_);rintro e W1 ⟨rfl,HF1⟩;replace HF:=hid HF1.less.less;clear HF1))
   go_roundg (cs.length - (k+1))
   case rel=>exact⟨k+1,_,rfl,hlt,by simp,HY2,HF⟩
   case measure=>omega
  ·have hki:¬(k:Int)<(cs.length:Int):=by omega
   have h1:=HY.out
   rw [List.drop_eq_nil_of_le (by omega)]at h1
   unfold Tr.cnsW at h1
   subst h1
   clear HY hg hk
   go_wp2
   go_loopg [37] ts.length (fun gm v9 wr=>∃(k:Nat) (y:Tr.Wk),gm=ts.length - k∧k≤ts.length∧v9=.int .i64 k∧RowKit.Hid (Y2=fdsW (ts.drop k) 1 y)∧RowKit.Hid (Fr.Fm w g Kp wr (.blk bw (wkC y)::R) Ds))
   case atStart=>exact⟨0,_,by simp,by omega,rfl,HY2,HF⟩
   case round =>
    clear HF HY2
    obtain⟨k,y,hg,hk,rfl,HY,HF⟩:=hrel
    by_cases hlt:k<ts.length
    ·obtain⟨b,off,rfl⟩:=HP2.out (by omega)
     have hki:(k:Int)<(ts.length:Int):=by omega
     have hk0:(0:Int)≤(k:Int):=by omega
     have hk1:(k:Int)≤9223372036854775807:=by omega
     have hY1:=HY.out
     rw [List.drop_eq_getElem_cons hlt]at hY1
     have hi:(fdDs ts)[k]?=some (fdD ts[k]):=by rw [Tr.fdDs_map];simp [hlt]
     generalize ts[k]=e0 at hY1 hi
     obtain⟨nm,ex,⟨kd,mo,n0,ls,el,ba,fs,pa,ra,q0⟩,p0⟩:=e0
     have HY2:=hid (show Y2=fdsW (ts.drop (k+1)) 1 (Tr.tysW [.mk kd mo n0 ls el ba fs pa ra q0] 1 y)from hY1)
     unfold fdD at hi
     simp only [tyD,List.cons_append,List.nil_append]at hi
     clear hY1 HY
     go_wp2_with (first
      | ((with_reducible refine is_load (T:=125) ?_);(refine Fr.wl_loadAt m2 HF.out HD2.out k rfl (by first|rfl|omega) hi Tryz.underlying125 rfl Fr.tyTy rfl ?_);intro css hrow;obtain⟨c0,_,rfl,h0,hrow⟩:=row_inv hrow;obtain⟨c1,_,rfl,h1,hrow⟩:=row_inv hrow;obtain⟨c2,_,rfl,h2,hrow⟩:=row_inv hrow;obtain⟨c3,_,rfl,h3,hrow⟩:=row_inv hrow;obtain⟨c4,_,rfl,h4,hrow⟩:=row_inv hrow;obtain⟨c5,_,rfl,h5,hrow⟩:=row_inv hrow;obtain⟨c6,_,rfl,h6,hrow⟩:=row_inv hrow;obtain⟨c7,_,rfl,h7,hrow⟩:=row_inv hrow;obtain⟨c8,_,rfl,h8,hrow⟩:=row_inv hrow;obtain⟨c9,_,rfl,h9,hrow⟩:=row_inv hrow;obtain⟨c10,_,rfl,h10,hrow⟩:=row_inv hrow;obtain⟨c11,_,rfl,h11,hrow⟩:=row_inv hrow;obtain⟨c12,_,rfl,h12,hrow⟩:=row_inv hrow;obtain rfl:=Fr.row_inv0 hrow;obtain rfl:=is_str h0;obtain rfl:=is_str h3;obtain rfl:=is_str h4;obtain rfl:=Fr.is_bool h1;obtain rfl:=is_int h2;obtain rfl:=is_int h11;obtain rfl:=is_int h12;replace HF:=hid (Fr.Fm.plus (Fr.Fm.plus (Fr.Fm.plus (Fr.Fm.plus (Fr.Fm.plus (Fr.Fm.plus HF.out h10) h9) h8) h7) h6) h5);clear h0 h1 h2 h3 h4 h5 h6 h7 h8 h9 h10 h11 h12 hrow)
      | ((with_reducible refine Fr.is_alloc ?_);(first|(refine Fr.wl_alloc HF.out Fr.tyTy ?_));intro b9 W1 HF1;replace HF:=hid HF1;clear HF1)
      | (first|((with_reducible refine Fr.is_store (T:=125) ?_);(first|(refine Fr.wl_store 0 HF.out Fr.tyTy rfl rfl rfl rfl rfl (z4 rfl) oT ?_));intro W1 HF1;simp only [setL,z0,z1]at HF1;replace HF:=hid HF1;clear HF1))
      | ((with_reducible refine is_load (T:=123) ?_);(refine Fr.wl_loadSub 0 HF.out rfl rfl (vs:=[.int .i64 kd,.string ⟨mo.toArray⟩,.string ⟨n0.toArray⟩,c5,c6,c7,c8,c9,c10,.int .i64 q0]) rfl Tryz.underlying123 rfl tyT rfl ?_))
      | ((with_reducible refine is_lit ?_);(refine wl_lit1 HF.out Tryz.underlying65 tyT (by simp) (by simp) rfl rfl rfl (tyD (.mk kd mo n0 ls el ba fs pa ra q0)) ?_ ?_);(focus(simp only [tyD];(repeat' (first|exact Da.row_nil _ _|exact Da.Is.int _|exact Da.Is.str _|(refine HF.out.isM ?_;simp;done)|refine Da.row_cons ?_ ?_))));intro b W1 HF1;replace HF:=hid HF1;clear HF1)
      | (go_at_call 151;(with_reducible refine(types_all [(.mk kd mo n0 ls el ba fs pa ra q0)] bw _ 0 _ 1 rfl HF.out.lessR).mono ?_);rintro e W1 ⟨rfl,HF1⟩;replace HF:=hid HF1.less.less.less.less.less.less.less;clear HF1))
     go_roundg (ts.length - (k+1))
     case rel=>exact⟨k+1,_,rfl,hlt,by simp,HY2,HF⟩
     case measure=>omega
    ·have hki:¬(k:Int)<(ts.length:Int):=by omega
     have h1:=HY.out
     rw [List.drop_eq_nil_of_le (by omega)]at h1
     unfold fdsW at h1
     subst h1
     clear HY hg hk
     go_wp2
     go_loopg [49] vs.length (fun gm v9 wr=>∃(k:Nat) (y:Tr.Wk),gm=vs.length - k∧k≤vs.length∧v9=.int .i64 k∧RowKit.Hid (Y3=fdsW (vs.drop k) 1 y)∧RowKit.Hid (Fr.Fm w g Kp wr (.blk bw (wkC y)::R) Ds))
     case atStart=>exact⟨0,_,by simp,by omega,rfl,HY3,HF⟩
     case round =>
      clear HF HY3
      obtain⟨k,y,hg,hk,rfl,HY,HF⟩:=hrel
      by_cases hlt:k<vs.length
      ·obtain⟨b,off,rfl⟩:=HP3.out (by omega)
       have hki:(k:Int)<(vs.length:Int):=by omega
       have hk0:(0:Int)≤(k:Int):=by omega
       have hk1:(k:Int)≤9223372036854775807:=by omega
       have hY1:=HY.out
       rw [List.drop_eq_getElem_cons hlt]at hY1
       have hi:(fdDs vs)[k]?=some (fdD vs[k]):=by rw [Tr.fdDs_map];simp [hlt]
       generalize vs[k]=e0 at hY1 hi
       obtain⟨nm,ex,⟨kd,mo,n0,ls,el,ba,fs,pa,ra,q0⟩,p0⟩:=e0
       have HY2:=hid (show Y3=fdsW (vs.drop (k+1)) 1 (Tr.tysW [.mk kd mo n0 ls el ba fs pa ra q0] 1 y)from hY1)
       unfold fdD at hi
       simp only [tyD,List.cons_append,List.nil_append]at hi
       clear hY1 HY
       go_wp2_with (first
        | ((with_reducible refine is_load (T:=126) ?_);(refine Fr.wl_loadAt m3 HF.out HD3.out k rfl (by first|rfl|omega) hi Tryz.underlying126 rfl Fr.tyV rfl ?_);intro css hrow;obtain⟨c0,_,rfl,h0,hrow⟩:=row_inv hrow;obtain⟨c1,_,rfl,h1,hrow⟩:=row_inv hrow;obtain⟨c2,_,rfl,h2,hrow⟩:=row_inv hrow;obtain⟨c3,_,rfl,h3,hrow⟩:=row_inv hrow;obtain⟨c4,_,rfl,h4,hrow⟩:=row_inv hrow;obtain⟨c5,_,rfl,h5,hrow⟩:=row_inv hrow;obtain⟨c6,_,rfl,h6,hrow⟩:=row_inv hrow;obtain⟨c7,_,rfl,h7,hrow⟩:=row_inv hrow;obtain⟨c8,_,rfl,h8,hrow⟩:=row_inv hrow;obtain⟨c9,_,rfl,h9,hrow⟩:=row_inv hrow;obtain⟨c10,_,rfl,h10,hrow⟩:=row_inv hrow;obtain⟨c11,_,rfl,h11,hrow⟩:=row_inv hrow;obtain⟨c12,_,rfl,h12,hrow⟩:=row_inv hrow;obtain rfl:=Fr.row_inv0 hrow;obtain rfl:=is_str h0;obtain rfl:=is_str h3;obtain rfl:=is_str h4;obtain rfl:=Fr.is_bool h1;obtain rfl:=is_int h2;obtain rfl:=is_int h11;obtain rfl:=is_int h12;replace HF:=hid (Fr.Fm.plus (Fr.Fm.plus (Fr.Fm.plus (Fr.Fm.plus (Fr.Fm.plus (Fr.Fm.plus HF.out h10) h9) h8) h7) h6) h5);clear h0 h1 h2 h3 h4 h5 h6 h7 h8 h9 h10 h11 h12 hrow)
        | ((with_reducible refine Fr.is_alloc ?_);(first|(refine Fr.wl_alloc HF.out Fr.tyV ?_));intro b9 W1 HF1;replace HF:=hid HF1;clear HF1)
        | (first|((with_reducible refine Fr.is_store (T:=126) ?_);(first|(refine Fr.wl_store 0 HF.out Fr.tyV rfl rfl rfl rfl rfl (z4 rfl) oT ?_));intro W1 HF1;simp only [setL,z0,z1]at HF1;replace HF:=hid HF1;clear HF1))
        | ((with_reducible refine is_load (T:=123) ?_);(refine Fr.wl_loadSub 0 HF.out rfl rfl (vs:=[.int .i64 kd,.string ⟨mo.toArray⟩,.string ⟨n0.toArray⟩,c5,c6,c7,c8,c9,c10,.int .i64 q0]) rfl Tryz.underlying123 rfl tyT rfl ?_))
        | ((with_reducible refine is_lit ?_);(refine wl_lit1 HF.out Tryz.underlying65 tyT (by simp) (by simp) rfl rfl rfl (tyD (.mk kd mo n0 ls el ba fs pa ra q0)) ?_ ?_);(focus(simp only [tyD];(repeat' (first|exact Da.row_nil _ _|exact Da.Is.int _|exact Da.Is.str _|(refine HF.out.isM ?_;simp;done)|refine Da.row_cons ?_ ?_))));intro b W1 HF1;replace HF:=hid HF1;clear HF1)
        | (go_at_call 151;(with_reducible refine(types_all [(.mk kd mo n0 ls el ba fs pa ra q0)] bw _ 0 _ 1 rfl HF.out.lessR).mono ?_);rintro e W1 ⟨rfl,HF1⟩;replace HF:=hid HF1.less.less.less.less.less.less.less;clear HF1))
       go_roundg (vs.length - (k+1))
       case rel=>exact⟨k+1,_,rfl,hlt,by simp,HY2,HF⟩
       case measure=>omega
      ·have hki:¬(k:Int)<(vs.length:Int):=by omega
       have h1:=HY.out
       rw [List.drop_eq_nil_of_le (by omega)]at h1
       unfold fdsW at h1
       subst h1
       clear HY hg hk
       go_wp2
       go_end0
       exact⟨rfl,HF.out⟩
namespace Fr
open Da Tr
theorem Fm.swap{w W:World}{g:Option Nat}{Kp:World→Prop}{r s:RI}{R:List RI}{Ds:List (Value × D)}(h:Fm w g Kp W (r::s::R) Ds):Fm w g Kp W (s::r::R) Ds:=by
 have h3:=h.pick (1::0::(List.range R.length).map (·+2)) (List.range Ds.length) (by
  rw [List.nodup_cons,List.nodup_cons]
  refine⟨by simp,by simp,?_⟩
  rw [List.nodup_iff_pairwise_ne,List.pairwise_map]
  exact(List.nodup_range).imp fun h=>by omega) (by intro k hk;simp at hk ⊢;omega) (by intro k hk;simp at hk ⊢;omega)
 have e1:(1::0::(List.range R.length).map (·+2)).map (fun k=>(r::s::R).getD k dead)=s::r::R:=by
  simp only [List.map_cons,List.getD_cons_succ,List.getD_cons_zero,List.map_map]
  congr 2
  apply List.ext_getElem?
  intro i
  by_cases hi:i<R.length
  ·simp [hi]
  ·simp [hi]
 have e2:(List.range Ds.length).map (fun k=>Ds.getD k (.nilIface,.int 0))=Ds:=by
  apply List.ext_getElem?
  intro i
  by_cases hi:i<Ds.length
  ·simp [hi]
  ·simp [hi]
 rwa [e1,e2]at h3
end Fr
abbrev Tr.moDs(M:Tr.Mo)(v1 v2 v3 v4 v5 v6:Value)(Ds:List (Value × Da.D)):List (Value × Da.D):=(v1,.list 3 (M.imports.map Tr.imD))::(v2,.list 9 (M.de.consts.map cnD))::(v3,.list 13 (fdDs M.de.types))::(v4,.list 13 (fdDs M.de.vars))::(v5,.list 10 (M.procs.map prD))::(v6,.list 6 (stDs M.body))::Ds
theorem wmodule_any(M:Tr.Mo){w W:World}{g:Option Nat}{Kp:World→Prop}{R:List Fr.RI}{Ds:List (Value × Da.D)}(bw:Nat)(x:Tr.Wk)(nm:ByteArray)(v1 v2 v3 v4 v5 v6:Value)(ps:Int)(h:Fr.Fm w g Kp W (.blk bw (wkC x)::R) (Tr.moDs M v1 v2 v3 v4 v5 v6 Ds)) :
  Calls Tryz.prog 80 #[.pointer (some ⟨bw,0,none⟩),.agg #[.string nm,v1,v2,v3,v4,v5,v6,.int .i64 ps]] W fun e W'=>e=.returned (.tuple #[])∧Fr.Fm w g Kp W' (.blk bw (wkC (Tr.moW M x))::R) (Tr.moDs M v1 v2 v3 v4 v5 v6 Ds):=by
 obtain⟨mn,ims,⟨mc,mt,mv⟩,prs,mb,mp⟩:=M
 obtain⟨Y0,hY0⟩:∃ Y0,Y0=Tr.declsW ⟨mc,mt,mv⟩ (Tr.listsW [ims.length,prs.length] x):=⟨_,rfl⟩
 obtain⟨Y1,hY1⟩:∃ Y1,Y1=Tr.procsW prs Y0:=⟨_,rfl⟩
 rw [show Tr.moW ⟨mn,ims,⟨mc,mt,mv⟩,prs,mb,mp⟩ x=Tr.stsW mb 1 Y1 by rw [hY1,hY0];rfl]
 simp only [Tr.moDs]at h ⊢
 obtain⟨p1,q1,rfl,hl1,-⟩:=Fr.Fm.daSlice (m:=0) h rfl
 obtain⟨p5,q5,rfl,hl5,hp5⟩:=Fr.Fm.daSlice (m:=4) h rfl
 rw [List.length_map]at hl1 hl5 hp5 h
 rw [List.length_map]at h
 simp only [List.length_map]
 have HF:=hid h
 have HP:=hid hp5
 have HY0:=hid hY0
 have HY1:=hid hY1
 have hn1:(ims.length:Int)≤9223372036854775807:=by omega
 have hn5:(prs.length:Int)≤9223372036854775807:=by omega
 clear h hp5 hY0 hY1
 go_enter Tryz.func80,Tryz.ntmps80
 go_wp2_with (first
  | (((with_reducible refine is_box ?_);refine wl_box HF.out rfl rfl ?_;intro b W1 HF1;replace HF:=hid HF1;clear HF1);replace HF:=hid HF.out.swap)
  | (first|((with_reducible refine is_load (T:=23) ?_);(first|(refine wl_load1 1 HF.out rfl rfl Tryz.underlying23 rfl rfl ?_)))|((with_reducible refine is_load (T:=27) ?_);(first|(refine wl_load1 1 HF.out rfl rfl Tryz.underlying27 rfl rfl ?_)))|((with_reducible refine is_load (T:=24) ?_);(first|(refine wl_load1 1 HF.out rfl rfl Tryz.underlying24 rfl rfl ?_)))|((with_reducible refine is_load (T:=25) ?_);(first|(refine wl_load1 1 HF.out rfl rfl Tryz.underlying25 rfl rfl ?_)))|((with_reducible refine is_load (T:=26) ?_);(first|(refine wl_load1 1 HF.out rfl rfl Tryz.underlying26 rfl rfl ?_))))
  | ((with_reducible refine is_lit ?_);(refine Fr.wl_int2 HF.out Tryz.underlying219 tyInt (z0:=(ims.length:Int)) (z1:=(prs.length:Int)) rfl rfl ?_);intro b5 W1 HF1;replace HF:=hid HF1;clear HF1)
  | (go_at_call 113;(with_reducible refine(list_any bw _ 0 _ [ims.length,prs.length] (by simp;omega) rfl HF.out).mono ?_);rintro e W1 ⟨rfl,HF1⟩;replace HF:=hid HF1.less;clear HF1)
  | (go_at_call 114;(with_reducible refine(wdecls_any mc mt mv bw _ 1 2 3 _ _ _ rfl rfl rfl HF.out).mono ?_);rintro e W1 ⟨rfl,HF1⟩;replace HF:=hid HF1;clear HF1))
 rw [show fdsW mv 1 (fdsW mt 1 (Tr.cnsW mc (Tr.listsW [mc.length,mt.length,mv.length] (Tr.listsW [ims.length,prs.length] x))))=Y0 by rw [HY0.out];rfl]at HF
 go_loopg [26] prs.length (fun gm v9 wr=>∃(k:Nat) (y:Tr.Wk),gm=prs.length - k∧k≤prs.length∧v9=.int .i64 k∧RowKit.Hid (Y1=Tr.procsW (prs.drop k) y)∧RowKit.Hid (Fr.Fm w g Kp wr (.blk bw (wkC y)::.blk b [.string nm,.slice p1 ims.length q1,v2,v3,v4,.slice p5 prs.length q5,v6,.int .i64 ps]::R) ((.slice p1 ims.length q1,Da.D.list 3 (ims.map Tr.imD))::(v2,Da.D.list 9 (mc.map cnD))::(v3,Da.D.list 13 (fdDs mt))::(v4,Da.D.list 13 (fdDs mv))::(.slice p5 prs.length q5,Da.D.list 10 (prs.map prD))::(v6,Da.D.list 6 (stDs mb))::Ds)))
 case atStart=>exact⟨0,Y0,by simp,by omega,rfl,HY1,HF⟩
 case round =>
  clear HF HY1
  obtain⟨k,y,hg,hk,rfl,HY,HF⟩:=hrel
  by_cases hlt:k<prs.length
  ·obtain⟨bb,off,rfl⟩:=HP.out (by omega)
   have hki:(k:Int)<(prs.length:Int):=by omega
   have hk0:(0:Int)≤(k:Int):=by omega
   have hk1:(k:Int)≤9223372036854775807:=by omega
   have hY1:=HY.out
   rw [List.drop_eq_getElem_cons hlt]at hY1
   have hi:(prs.map prD)[k]?=some (prD prs[k]):=by simp [hlt]
   generalize prs[k]=e0 at hY1 hi
   obtain⟨pn,po,pps,pre,⟨pc,pt,pv⟩,pb,prt,pp⟩:=e0
   have HY2:=hid (show Y1=Tr.procsW (prs.drop (k+1)) (exsW prt 1 (Tr.stsW pb 1 (fdsW pv 1 (fdsW pt 1 (Tr.cnsW pc (Tr.listsW [pc.length,pt.length,pv.length] (Tr.tysW pre 1 (fdsW pps 1 (Tr.listsW [pps.length] y)))))))))from hY1)
   unfold prD at hi
   clear hY1 HY
   go_wp2_with (first
    | ((with_reducible refine is_load (T:=67) ?_);(refine Fr.wl_loadAt 4 HF.out rfl k rfl (by first|rfl|omega) hi Tryz.underlying67 rfl Fr.tyPr rfl ?_);intro css hrow;obtain⟨c0,_,rfl,h0,hrow⟩:=row_inv hrow;obtain⟨c1,_,rfl,h1,hrow⟩:=row_inv hrow;obtain⟨c2,_,rfl,h2,hrow⟩:=row_inv hrow;obtain⟨c3,_,rfl,h3,hrow⟩:=row_inv hrow;obtain⟨c4,_,rfl,h4,hrow⟩:=row_inv hrow;obtain⟨c5,_,rfl,h5,hrow⟩:=row_inv hrow;obtain⟨c6,_,rfl,h6,hrow⟩:=row_inv hrow;obtain⟨c7,_,rfl,h7,hrow⟩:=row_inv hrow;obtain⟨c8,_,rfl,h8,hrow⟩:=row_inv hrow;obtain⟨c9,_,rfl,h9,hrow⟩:=row_inv hrow;obtain rfl:=Fr.row_inv0 hrow;obtain rfl:=is_str h0;obtain rfl:=Fr.is_bool h1;obtain rfl:=is_int h9;replace HF:=hid (Fr.Fm.plus (Fr.Fm.plus (Fr.Fm.plus (Fr.Fm.plus (Fr.Fm.plus (Fr.Fm.plus (Fr.Fm.plus HF.out h8) h7) h6) h5) h4) h3) h2);clear h0 h1 h2 h3 h4 h5 h6 h7 h8 h9 hrow;obtain⟨pq,cq,rfl,hq,-⟩:=Fr.Fm.daSlice (m:=0) HF.out rfl;simp only [Fr.fdDs_len']at hq HF ⊢)
    | ((with_reducible refine Fr.is_alloc ?_);(first|(refine Fr.wl_alloc HF.out Fr.tyPr ?_));intro b9 W1 HF1;replace HF:=hid HF1;clear HF1)
    | ((first|((with_reducible refine Fr.is_store (T:=67) ?_);(first|(refine Fr.wl_store 0 HF.out Fr.tyPr rfl rfl rfl rfl rfl (z4 rfl) oT ?_));intro W1 HF1;simp only [setL,z0,z1]at HF1;replace HF:=hid HF1;clear HF1));replace HF:=hid HF.out.swap)
    | (first|((with_reducible refine is_load (T:=64) ?_);(first|(refine wl_load1 1 HF.out rfl rfl Tryz.underlying64 rfl rfl ?_)))|((with_reducible refine is_load (T:=65) ?_);(first|(refine wl_load1 1 HF.out rfl rfl Tryz.underlying65 rfl rfl ?_)))|((with_reducible refine is_load (T:=24) ?_);(first|(refine wl_load1 1 HF.out rfl rfl Tryz.underlying24 rfl rfl ?_)))|((with_reducible refine is_load (T:=25) ?_);(first|(refine wl_load1 1 HF.out rfl rfl Tryz.underlying25 rfl rfl ?_)))|((with_reducible refine is_load (T:=26) ?_);(first|(refine wl_load1 1 HF.out rfl rfl Tryz.underlying26 rfl rfl ?_)))|((with_reducible refine is_load (T:=28) ?_);(first|(refine wl_load1 1 HF.out rfl rfl Tryz.underlying28 rfl rfl ?_)))|((with_reducible refine is_load (T:=47) ?_);(first|(refine wl_load1 1 HF.out rfl rfl Tryz.underlying47 rfl rfl ?_))))
    | ((with_reducible refine is_lit ?_);(refine wl_lit1 HF.out Tryz.underlying219 tyInt (by simp) (by simp) rfl rfl rfl [.int (pps.length:Int)] (by exact Da.row_cons (Da.Is.int _) (Da.row_nil _ _)) ?_);intro b5 W1 HF1;replace HF:=hid HF1;clear HF1)
    | (go_at_call 113;(with_reducible refine(list_any bw _ 0 _ [pps.length] (by simp;omega) rfl HF.out).mono ?_);rintro e W1 ⟨rfl,HF1⟩;replace HF:=hid HF1.less;clear HF1)
    | (go_at_call 115;(with_reducible refine(params_all pps pre bw _ 0 1 _ _ 1 rfl rfl HF.out).mono ?_);rintro e W1 ⟨rfl,HF1⟩;replace HF:=hid HF1;clear HF1)
    | (go_at_call 114;(with_reducible refine(wdecls_any pc pt pv bw _ 2 3 4 _ _ _ rfl rfl rfl HF.out).mono ?_);rintro e W1 ⟨rfl,HF1⟩;replace HF:=hid HF1;clear HF1)
    | (go_at_call 116;(with_reducible refine(stats_all pb bw _ 5 _ 1 rfl HF.out).mono ?_);rintro e W1 ⟨rfl,HF1⟩;replace HF:=hid HF1;clear HF1)
    | (go_at_call 117;(with_reducible refine(exprs_all prt bw _ 6 _ 1 rfl HF.out).mono ?_);rintro e W1 ⟨rfl,HF1⟩;replace HF:=hid HF1;clear HF1))
   go_roundg (prs.length - (k+1))
   case rel=>exact⟨k+1,_,rfl,hlt,by simp,HY2,hid HF.out.swap.lessR.less.less.less.less.less.less.less⟩
   case measure=>omega
  ·have hki:¬(k:Int)<(prs.length:Int):=by omega
   have h1:=HY.out
   rw [List.drop_eq_nil_of_le (by omega)]at h1
   unfold Tr.procsW at h1
   subst h1
   clear HY hg hk
   go_wp2_with (first
    | (first|((with_reducible refine is_load (T:=28) ?_);(first|(refine wl_load1 1 HF.out rfl rfl Tryz.underlying28 rfl rfl ?_))))
    | (go_at_call 116;(with_reducible refine(stats_all mb bw _ 5 _ 1 rfl HF.out).mono ?_);rintro e W1 ⟨rfl,HF1⟩;replace HF:=hid HF1;clear HF1))
   go_end0
   exact⟨rfl,HF.out.swap.lessR⟩
namespace Fr
open Da Tr
theorem VMo.parts{lo:Nat}{w:World}{v:Value}{m:Mo}(h:VMo lo w v m):∃ v1 v2 v3 v4 v5 v6:Value,v=.agg #[.string ⟨m.name.toArray⟩,v1,v2,v3,v4,v5,v6,.int .i64 m.pos] ∧
  Is w (fun b=>lo≤b) v1 (.list 3 (m.imports.map imD))∧Is w (fun b=>lo≤b) v2 (.list 9 (m.de.consts.map cnD))∧Is w (fun b=>lo≤b) v3 (.list 13 (fdDs m.de.types))∧Is w (fun b=>lo≤b) v4 (.list 13 (fdDs m.de.vars))∧Is w (fun b=>lo≤b) v5 (.list 10 (m.procs.map prD))∧Is w (fun b=>lo≤b) v6 (.list 6 (stDs m.body)):=by
 obtain⟨cs,rfl,hr⟩:=h
 unfold moD at hr
 obtain⟨c0,_,rfl,h0,hr⟩:=row_inv hr
 obtain⟨c1,_,rfl,h1,hr⟩:=row_inv hr
 obtain⟨c2,_,rfl,h2,hr⟩:=row_inv hr
 obtain⟨c3,_,rfl,h3,hr⟩:=row_inv hr
 obtain⟨c4,_,rfl,h4,hr⟩:=row_inv hr
 obtain⟨c5,_,rfl,h5,hr⟩:=row_inv hr
 obtain⟨c6,_,rfl,h6,hr⟩:=row_inv hr
 obtain⟨c7,_,rfl,h7,hr⟩:=row_inv hr
 obtain rfl:=row_inv0 hr
 obtain rfl:=is_str h0
 obtain rfl:=is_int h7
 exact⟨c1,c2,c3,c4,c5,c6,rfl,h1,h2,h3,h4,h5,h6⟩
end Fr
theorem walked_any(M:Tr.Mo){w W:World}{g:Option Nat}{Kp:World→Prop}{R:List Fr.RI}{Ds:List (Value × Da.D)}(nm:ByteArray)(v1 v2 v3 v4 v5 v6:Value)(ps:Int)(h:Fr.Fm w g Kp W R (Tr.moDs M v1 v2 v3 v4 v5 v6 Ds)) :
  Calls Tryz.prog 51 #[.agg #[.string nm,v1,v2,v3,v4,v5,v6,.int .i64 ps]] W fun e W'=>∃ bw,e=.returned (.pointer (some ⟨bw,0,none⟩))∧Fr.Fm w g Kp W' (.blk bw (wkC (Tr.walkW M))::R) (Tr.moDs M v1 v2 v3 v4 v5 v6 Ds):=by
 have HF:=hid h
 clear h
 obtain⟨y,hy⟩:∃ y:Tr.Wk,y=Tr.walkW M:=⟨_,rfl⟩
 rw [← hy]
 have HY:=hid hy
 clear hy
 go_enter Tryz.func51,Tryz.ntmps51
 go_wp2_with (first
  | ((with_reducible refine is_box ?_);refine wl_box HF.out rfl rfl ?_;intro b1 W1 HF1;replace HF:=hid HF1;clear HF1)
  | (first|((with_reducible refine is_load (T:=30) ?_);(first|(refine wl_load 1 HF.out rfl rfl Tryz.underlying30 rfl tyM rfl ?_))))
  | (go_at_call 80;(with_reducible refine(wmodule_any M _ ⟨4000,0,false⟩ nm v1 v2 v3 v4 v5 v6 ps HF.out).mono ?_);rintro e W1 ⟨rfl,HF1⟩;replace HF:=hid HF1;clear HF1))
 refine bodyPost_ret (by simp [results,Tryz.results51,go_sem];try rfl) rfl ⟨_,rfl,?_⟩
 rw [HY.out]
 exact HF.out.swap.lessR
theorem limited_any(M:Tr.Mo){w W:World}{g:Option Nat}{Kp:World→Prop}{R:List Fr.RI}{Ds:List (Value × Da.D)}(nm:ByteArray)(v1 v2 v3 v4 v5 v6:Value)(ps:Int)(h:Fr.Fm w g Kp W R (Tr.moDs M v1 v2 v3 v4 v5 v6 Ds)) :
  Calls Tryz.prog 19 #[.agg #[.string nm,v1,v2,v3,v4,v5,v6,.int .i64 ps]] W fun e W'=>e=.returned (.int .i64 (Tr.limW M))∧Fr.Fm w g Kp W' R (Tr.moDs M v1 v2 v3 v4 v5 v6 Ds):=by
 have HF:=hid h
 clear h
 obtain⟨y,hy⟩:∃ y,y=Tr.limW M:=⟨_,rfl⟩
 rw [← hy]
 unfold Tr.limW at hy
 obtain⟨z,hz⟩:∃ z,z=Tr.walkW M:=⟨_,rfl⟩
 rw [← hz]at hy
 obtain⟨lf,dp,lg⟩:=z
 simp only at hy
 have HZ:=hid hz
 have HW:RowKit.Hid (∀(W:World) (R:List Fr.RI),Fr.Fm w g Kp W R (Tr.moDs M v1 v2 v3 v4 v5 v6 Ds)→Calls Tryz.prog 51 #[.agg #[.string nm,v1,v2,v3,v4,v5,v6,.int .i64 ps]] W fun e W'=>∃ bw,e=.returned (.pointer (some ⟨bw,0,none⟩))∧Fr.Fm w g Kp W' (.blk bw [.int .i64 lf,.int .i64 dp,.bool lg]::R) (Tr.moDs M v1 v2 v3 v4 v5 v6 Ds)):=
  hid (fun W R h=>(walked_any M nm v1 v2 v3 v4 v5 v6 ps h).mono (fun e W' hh=>by rw [← HZ.out]at hh;exact hh))
 clear hz HZ
 have HY:RowKit.Hid (y=if lg=true∨lf<0 then 3 else if 64<dp then 4 else 0):=hid hy
 clear hy
 cases lg with
 | true =>
  replace HY:=hid (show y=3 from HY.out)
  go_enter Tryz.func19,Tryz.ntmps19
  go_wp2_with (first
   | ((with_reducible refine is_box ?_);refine wl_box HF.out rfl rfl ?_;intro b1 W1 HF1;replace HF:=hid HF1;clear HF1)
   | (first|((with_reducible refine is_load (T:=30) ?_);(first|(refine wl_load 0 HF.out rfl rfl Tryz.underlying30 rfl tyM rfl ?_))))
   | (go_at_call 51;(with_reducible refine(HW.out _ _ HF.out).mono ?_);rintro e W1 ⟨bw,rfl,HF1⟩;have c0:=HF1.cellAt 0 rfl 0 rfl;have c1:=HF1.cellAt 0 rfl 1 rfl;have c2:=HF1.cellAt 0 rfl 2 rfl;have hbw:=HF1.ltAt 0 rfl;replace HF:=hid HF1;clear HF1))
  refine bodyPost_ret (by simp [results,Tryz.results19,go_sem];try rfl) rfl ⟨by rw [HY.out],HF.out.lessR.lessR⟩
 | false =>
  by_cases h1:lf<0
  ·replace HY:=hid (show y=3 from by rw [HY.out,if_pos (.inr h1)])
   go_enter Tryz.func19,Tryz.ntmps19
   go_wp2_with (first
    | ((with_reducible refine is_box ?_);refine wl_box HF.out rfl rfl ?_;intro b1 W1 HF1;replace HF:=hid HF1;clear HF1)
    | (first|((with_reducible refine is_load (T:=30) ?_);(first|(refine wl_load 0 HF.out rfl rfl Tryz.underlying30 rfl tyM rfl ?_))))
    | (go_at_call 51;(with_reducible refine(HW.out _ _ HF.out).mono ?_);rintro e W1 ⟨bw,rfl,HF1⟩;have c0:=HF1.cellAt 0 rfl 0 rfl;have c1:=HF1.cellAt 0 rfl 1 rfl;have c2:=HF1.cellAt 0 rfl 2 rfl;have hbw:=HF1.ltAt 0 rfl;replace HF:=hid HF1;clear HF1))
   refine bodyPost_ret (by simp [results,Tryz.results19,go_sem];try rfl) rfl ⟨by rw [HY.out],HF.out.lessR.lessR⟩
  ·by_cases h2:64<dp
   ·replace HY:=hid (show y=4 from by rw [HY.out,if_neg (by simp;omega),if_pos h2])
    go_enter Tryz.func19,Tryz.ntmps19
    go_wp2_with (first
     | ((with_reducible refine is_box ?_);refine wl_box HF.out rfl rfl ?_;intro b1 W1 HF1;replace HF:=hid HF1;clear HF1)
     | (first|((with_reducible refine is_load (T:=30) ?_);(first|(refine wl_load 0 HF.out rfl rfl Tryz.underlying30 rfl tyM rfl ?_))))
     | (go_at_call 51;(with_reducible refine(HW.out _ _ HF.out).mono ?_);rintro e W1 ⟨bw,rfl,HF1⟩;have c0:=HF1.cellAt 0 rfl 0 rfl;have c1:=HF1.cellAt 0 rfl 1 rfl;have c2:=HF1.cellAt 0 rfl 2 rfl;have hbw:=HF1.ltAt 0 rfl;replace HF:=hid HF1;clear HF1))
    refine bodyPost_ret (by simp [results,Tryz.results19,go_sem];try rfl) rfl ⟨by rw [HY.out],HF.out.lessR.lessR⟩
   ·replace HY:=hid (show y=0 from by rw [HY.out,if_neg (by simp;omega),if_neg h2])
    go_enter Tryz.func19,Tryz.ntmps19
    go_wp2_with (first
     | ((with_reducible refine is_box ?_);refine wl_box HF.out rfl rfl ?_;intro b1 W1 HF1;replace HF:=hid HF1;clear HF1)
     | (first|((with_reducible refine is_load (T:=30) ?_);(first|(refine wl_load 0 HF.out rfl rfl Tryz.underlying30 rfl tyM rfl ?_))))
     | (go_at_call 51;(with_reducible refine(HW.out _ _ HF.out).mono ?_);rintro e W1 ⟨bw,rfl,HF1⟩;have c0:=HF1.cellAt 0 rfl 0 rfl;have c1:=HF1.cellAt 0 rfl 1 rfl;have c2:=HF1.cellAt 0 rfl 2 rfl;have hbw:=HF1.ltAt 0 rfl;replace HF:=hid HF1;clear HF1))
    refine bodyPost_ret (by simp [results,Tryz.results19,go_sem];try rfl) rfl ⟨by rw [HY.out],HF.out.lessR.lessR⟩
end Go.Proofs.YtlhmkfcbldghfaaGreatDoor
