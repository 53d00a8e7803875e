/- The walk of the document's Same at modules that are alike but for places,and at two empty modules. Conditions: the lists are told. -/
import Derived.Test.YtlhmkfcbldghfaaGreatDoorSmG
import Derived.Test.YtlhmkfcbldghfaaGreatDoorTwY
namespace Go.Proofs.YtlhmkfcbldghfaaGreatDoor
set_option linter.all false
open Go.Lib (hid)
set_option maxRecDepth 1000000
set_option maxHeartbeats 16000000
open Go.RowKit
open Fr (tkB tkM wT wN wE)
open Fr (is_str ow_allocB ow_storeB setL tyI tyPr)
open Tr (cnD fdDs imD moDs prD stDs)
theorem rsame_any (M N : Tr.Mo) {w W : World} {g : Option Nat} {Kp : World → Prop} {R : List Fr.RI} {Ds : List (Value × Da.D)} (v1 v2 v3 v4 v5 v6 zv1 zv2 zv3 zv4 zv5 zv6 : Value) (hs : Tr.moS false M N = true) (h : Fr.Fm w g Kp W R (moDs M v1 v2 v3 v4 v5 v6 (moDs N zv1 zv2 zv3 zv4 zv5 zv6 Ds))) :
  Calls Tryz.prog 9 #[.agg #[.string ⟨M.name.toArray⟩,v1,v2,v3,v4,v5,v6,.int .i64 M.pos],.agg #[.string ⟨N.name.toArray⟩,zv1,zv2,zv3,zv4,zv5,zv6,.int .i64 N.pos],.bool false] W fun e W' => e = .returned (.bool true) ∧ Fr.Fm w g Kp W' R (moDs M v1 v2 v3 v4 v5 v6 (moDs N zv1 zv2 zv3 zv4 zv5 zv6 Ds)):=by
 obtain ⟨mn,ims,⟨mc,mt,mv⟩,prs,mb,mp⟩:=M
 obtain ⟨mn2,ims2,⟨nc,nt,nv⟩,prs2,nb,np⟩:=N
 unfold Tr.moS Tr.deS at hs
 simp only [Bool.and_eq_true,Bool.not_eq_true',bne_eq_false_iff_eq] at hs
 obtain ⟨⟨⟨⟨⟨rfl,-⟩,⟨hs1,hs2⟩,hs3⟩,hs4⟩,hs5⟩,hs6⟩:=hs
 have hil : ims.length = ims2.length:=by
  by_cases he : ims.length = ims2.length
  ·exact he
  ·rw [Tr.imS_len he] at hs5;cases hs5
 have hpl : prs.length = prs2.length:=by
  by_cases he : prs.length = prs2.length
  ·exact he
  ·rw [Tr.prsS_len he] at hs6;cases hs6
 simp only [moDs] at h ⊢
 obtain ⟨p1,q1,rfl,hl1,hp1⟩:=h.daSlice (m:=0) rfl
 obtain ⟨p5,q5,rfl,hl5,hp5⟩:=h.daSlice (m:=4) rfl
 obtain ⟨r1,s1,rfl,hk1,hr1⟩:=h.daSlice (m:=6) rfl
 obtain ⟨r5,s5,rfl,hk5,hr5⟩:=h.daSlice (m:=10) rfl
 simp only [List.length_map,← hil,← hpl] at hl1 hp1 hl5 hp5 hk1 hr1 hk5 hr5 h ⊢
 have HF:=hid h
 have HP1:=hid hp1
 have HP5:=hid hp5
 have HR1:=hid hr1
 have HR5:=hid hr5
 have HIN:=hid hs5
 have HIN2:=hid hs6
 have hn1 : (ims.length : Int) ≤ 9223372036854775807:=by omega
 have hn5 : (prs.length : Int) ≤ 9223372036854775807:=by omega
 clear h hp1 hp5 hr1 hr5 hs5 hs6 hil hpl
 have HM0:=hid trivial
 go_enter Tryz.func9,Tryz.ntmps9
 go_wp2_with (first
  | (first | (clear HM0;(with_reducible refine Fr.is_box ?_);refine Fr.wl_box HF.out rfl rfl ?_;intro ba0 W1 HF1;replace HF:=hid HF1;clear HF1) | ((with_reducible refine Fr.is_box ?_);refine Fr.wl_box HF.out rfl rfl ?_;intro bb0 W1 HF1;replace HF:=hid HF1;clear HF1;have e0:=HF.out.cellAt 1 rfl 0 rfl;have f0:=HF.out.cellAt 0 rfl 0 rfl;have e1:=HF.out.cellAt 1 rfl 1 rfl;have f1:=HF.out.cellAt 0 rfl 1 rfl;have e2:=HF.out.cellAt 1 rfl 2 rfl;have f2:=HF.out.cellAt 0 rfl 2 rfl;have e3:=HF.out.cellAt 1 rfl 3 rfl;have f3:=HF.out.cellAt 0 rfl 3 rfl;have e4:=HF.out.cellAt 1 rfl 4 rfl;have f4:=HF.out.cellAt 0 rfl 4 rfl;have e5:=HF.out.cellAt 1 rfl 5 rfl;have f5:=HF.out.cellAt 0 rfl 5 rfl;have e6:=HF.out.cellAt 1 rfl 6 rfl;have f6:=HF.out.cellAt 0 rfl 6 rfl))
  | (go_at_call 20;(with_reducible refine (rconsts_all mc nc false 1 7 _ _ rfl rfl hs1 (by simp) HF.out).mono ?_);rintro e W3 ⟨rfl,HF1⟩;replace HF:=hid HF1;clear HF1;have e3:=HF.out.cellAt 1 rfl 3 rfl;have f3:=HF.out.cellAt 0 rfl 3 rfl;have e4:=HF.out.cellAt 1 rfl 4 rfl;have f4:=HF.out.cellAt 0 rfl 4 rfl;have e6:=HF.out.cellAt 1 rfl 6 rfl;have f6:=HF.out.cellAt 0 rfl 6 rfl)
  | (go_at_call 21;(with_reducible refine (rtdecls_all mt nt false 2 8 _ _ rfl rfl hs2 (by simp) HF.out).mono ?_);rintro e W3 ⟨rfl,HF1⟩;replace HF:=hid HF1;clear HF1;have e3:=HF.out.cellAt 1 rfl 3 rfl;have f3:=HF.out.cellAt 0 rfl 3 rfl;have e4:=HF.out.cellAt 1 rfl 4 rfl;have f4:=HF.out.cellAt 0 rfl 4 rfl;have e6:=HF.out.cellAt 1 rfl 6 rfl;have f6:=HF.out.cellAt 0 rfl 6 rfl)
  | (go_at_call 22;(with_reducible refine (rvars_all mv nv false 3 9 _ _ rfl rfl hs3 (by simp) HF.out).mono ?_);rintro e W3 ⟨rfl,HF1⟩;replace HF:=hid HF1;clear HF1;have e3:=HF.out.cellAt 1 rfl 3 rfl;have f3:=HF.out.cellAt 0 rfl 3 rfl;have e4:=HF.out.cellAt 1 rfl 4 rfl;have f4:=HF.out.cellAt 0 rfl 4 rfl;have e6:=HF.out.cellAt 1 rfl 6 rfl;have f6:=HF.out.cellAt 0 rfl 6 rfl)
  | (go_at_call 23;(with_reducible refine (rstats_all mb nb false 5 11 _ _ rfl rfl hs4 (by simp) HF.out).mono ?_);rintro e W3 ⟨rfl,HF1⟩;replace HF:=hid HF1;clear HF1))
 clear e0 e1 e2 e3 e4 e5 e6 f0 f1 f2 f3 f4 f5 f6
 go_loopg [7] ims.length (fun gm v7 wr => ∃ j : Nat,gm = ims.length - j ∧ j ≤ ims.length ∧ v7 = .int .i64 j ∧ RowKit.Hid (Tr.imS false (ims.drop j) (ims2.drop j) = true) ∧ RowKit.Hid (Fr.Fm w g Kp wr (.blk bb0 [.string ⟨mn.toArray⟩,.slice r1 ims.length s1,zv2,zv3,zv4,.slice r5 prs.length s5,zv6,.int .i64 np] :: .blk ba0 [.string ⟨mn.toArray⟩,.slice p1 ims.length q1,v2,v3,v4,.slice p5 prs.length q5,v6,.int .i64 mp] :: R) ((.slice p1 ims.length q1,Da.D.list 3 (ims.map imD)) :: (v2,Da.D.list 9 (mc.map cnD)) :: (v3,Da.D.list 13 (fdDs mt)) :: (v4,Da.D.list 13 (fdDs mv)) :: (.slice p5 prs.length q5,Da.D.list 10 (prs.map prD)) :: (v6,Da.D.list 6 (stDs mb)) :: ((.slice r1 ims.length s1,Da.D.list 3 (ims2.map imD)) :: (zv2,Da.D.list 9 (nc.map cnD)) :: (zv3,Da.D.list 13 (fdDs nt)) :: (zv4,Da.D.list 13 (fdDs nv)) :: (.slice r5 prs.length s5,Da.D.list 10 (prs2.map prD)) :: (zv6,Da.D.list 6 (stDs nb)) :: Ds))))
 case atStart => exact ⟨0,by simp,by omega,rfl,HIN,HF⟩
 case round =>
  clear HF HIN
  obtain ⟨j,hg,hj,rfl,HIN,HF⟩:=hrel
  have eL:=HF.out.cellAt 1 rfl 1 rfl
  have fL:=HF.out.cellAt 0 rfl 1 rfl
  have hlba:=HF.out.ltAt 1 rfl
  have hlbb:=HF.out.ltAt 0 rfl
  by_cases hjl : j < ims.length
  ·obtain ⟨bx6,off6,rfl⟩:=HP1.out (by omega)
   obtain ⟨by6,off7,rfl⟩:=HR1.out (by omega)
   have hji : (j : Int) < (ims.length : Int):=by omega
   have hj0 : (0 : Int) ≤ (j : Int):=by omega
   have hj1 : (j : Int) ≤ 9223372036854775807:=by omega
   have hjl2 : j < ims2.length:=by
    have h1:=HIN.out
    by_cases h2 : j < ims2.length
    ·exact h2
    ·rw [Tr.imS_len (by simp;omega)] at h1;cases h1
   have hs:=HIN.out
   rw [List.drop_eq_getElem_cons hjl,List.drop_eq_getElem_cons hjl2] at hs
   have hi3 : (ims.map imD)[j]? = some (imD ims[j]):=by simp [hjl]
   have hi4 : (ims2.map imD)[j]? = some (imD ims2[j]):=by simp [hjl2]
   generalize ims[j] = x1 at hs hi3
   generalize ims2[j] = y1 at hs hi4
   obtain ⟨al,in1,ip⟩:=x1
   obtain ⟨al2,in2,jp⟩:=y1
   unfold Tr.imS at hs
   simp only [Bool.and_eq_true,Bool.not_eq_true',bne_eq_false_iff_eq] at hs
   obtain ⟨⟨⟨rfl,rfl⟩,-⟩,hsr⟩:=hs
   replace HIN:=hid hsr
   unfold imD at hi3 hi4
   obtain ⟨ca2,ra2,hra,hba2⟩:=HF.out.rowAt (m:=0) rfl j hi3
   obtain ⟨cb2,rb2,hrb,hbb2⟩:=HF.out.rowAt (m:=6) rfl j hi4
   obtain ⟨c0,c1,c2,rfl,hc0,hc1,hc2⟩:=Fr.row3 hra;clear hra
   obtain rfl:=is_str hc0
   obtain rfl:=is_str hc1
   obtain rfl:=Fr.is_int hc2
   clear hc0 hc1 hc2
   obtain ⟨d0,d1,d2,rfl,hd0,hd1,hd2⟩:=Fr.row3 hrb;clear hrb
   obtain rfl:=is_str hd0
   obtain rfl:=is_str hd1
   obtain rfl:=Fr.is_int hd2
   clear hd0 hd1 hd2
   have HB:=hid ((Below.refl wr.heap.size wr).drew)
   clear hsr
   go_wp2
   go_cut [8,9] from 89 to 98 (fun v8 v9 wc => ∃ ba bb : Nat,v8 = .pointer (some ⟨ba,0,none⟩) ∧ v9 = .pointer (some ⟨bb,0,none⟩) ∧ RowKit.Hid (Fr.Fm w g Kp wc (.blk bb [.string ⟨al.toArray⟩,.string ⟨in1.toArray⟩,.int .i64 jp] :: .blk ba [.string ⟨al.toArray⟩,.string ⟨in1.toArray⟩,.int .i64 ip] :: .blk bb0 [.string ⟨mn.toArray⟩,.slice (some ⟨by6,off7,none⟩) ims.length s1,zv2,zv3,zv4,.slice r5 prs.length s5,zv6,.int .i64 np] :: .blk ba0 [.string ⟨mn.toArray⟩,.slice (some ⟨bx6,off6,none⟩) ims.length q1,v2,v3,v4,.slice p5 prs.length q5,v6,.int .i64 mp] :: R) ((.slice (some ⟨bx6,off6,none⟩) ims.length q1,Da.D.list 3 (ims.map imD)) :: (v2,Da.D.list 9 (mc.map cnD)) :: (v3,Da.D.list 13 (fdDs mt)) :: (v4,Da.D.list 13 (fdDs mv)) :: (.slice p5 prs.length q5,Da.D.list 10 (prs.map prD)) :: (v6,Da.D.list 6 (stDs mb)) :: ((.slice (some ⟨by6,off7,none⟩) ims.length s1,Da.D.list 3 (ims2.map imD)) :: (zv2,Da.D.list 9 (nc.map cnD)) :: (zv3,Da.D.list 13 (fdDs nt)) :: (zv4,Da.D.list 13 (fdDs nv)) :: (.slice r5 prs.length s5,Da.D.list 10 (prs2.map prD)) :: (zv6,Da.D.list 6 (stDs nb)) :: Ds))))
   case first =>
    replace HF:=hid HF.out.drew
    refine wp_region_G (UpTo 13 (fun X => Below wr.heap.size wr X)) 14 (by kernel_rfl) (by kernel_rfl) (fun _ => HB.out) (fun _ hS => ?_)
    generalize World.drew _ = W1 at HF HB hS ⊢
    refine tkB (n:=14) (is:=[0,1,2,3,4,5,6,7,8,9]) [[0],[1],[2],[3],[4],[5],[6],[7],[8],[9]] (k:=10) rfl (by kernel_rfl) (fun d _ _ _ _ h => by cases d <;> exact h) hS ?_
    repeat (first | (refine wT (i:=1) (v:=.slice (some ⟨bx6,off6,none⟩) ims.length q1) rfl (by rfl) (fun X xb => ?_) ?_;(focus (have y:=(xb.cell (p:=⟨ba0,1,none⟩) hlba).trans eL;clear xb;go_simp;try with_reducible rfl))) | (refine wT (i:=4) (v:=.agg #[.string ⟨al.toArray⟩,.string ⟨in1.toArray⟩,.int .i64 ip]) rfl (by rfl) (fun X xb => ?_) ?_;(focus (exact Fr.exec_row rfl rfl ra2 xb hba2 Tryz.underlying63 rfl tyI rfl))) | (refine wT (i:=6) (v:=.slice (some ⟨by6,off7,none⟩) ims.length s1) rfl (by rfl) (fun X xb => ?_) ?_;(focus (have y:=(xb.cell (p:=⟨bb0,1,none⟩) hlbb).trans fL;clear xb;go_simp;try with_reducible rfl))) | (refine wT (i:=9) (v:=.agg #[.string ⟨al.toArray⟩,.string ⟨in1.toArray⟩,.int .i64 jp]) rfl (by rfl) (fun X xb => ?_) ?_;(focus (exact Fr.exec_row rfl rfl rb2 xb hbb2 Tryz.underlying63 rfl tyI rfl))) | (refine wT (v:=?_) rfl (by rfl) (fun X hX => ?_) ?_;rotate_left 1;(focus (clear hX;go_simp;try with_reducible rfl))));try simp only [Act.put,zA,z0,z1]
    refine wE fun hS => ?_
    refine wpAnyG_ready (rs:=[10,11]) (by kernel_rfl) (by simp) ?_
    refine AllReadyG.cons rfl (fun K hK => ?_) (AllReadyG.cons rfl (fun K hK => ?_) AllReadyG.nil)
    ·skip
     refine (if_pos (by rfl)).mpr ?_
     refine ow_allocB HF.out tyI rfl ?_
     intro ba W2 hn hb HF1
     have HNba:=hid (Nat.le_trans HB.out.size hn);replace HB:=hid (HB.out.trans (hb.mono HB.out.size));replace HF:=hid HF1;clear hn hb HF1
     refine hK.out _ _ (fun _ => HB.out) fun hS => ?_;clear hK K
     try simp only [Act.put,zA,z0,z1]
     refine rd1 (i:=11) (by kernel_rfl) (.cons rfl (fun K hK => ?_) .nil)
     refine (if_pos (by rfl)).mpr ?_
     refine ow_allocB HF.out tyI rfl ?_
     intro bb W2 hn hb HF1
     have HNbb:=hid (Nat.le_trans HB.out.size hn);replace HB:=hid (HB.out.trans (hb.mono HB.out.size));replace HF:=hid HF1;clear hn hb HF1
     refine hK.out _ _ (fun _ => HB.out) fun hS => ?_;clear hK K
     try simp only [Act.put,zA,z0,z1]
     refine rd1 (i:=12) (by kernel_rfl) (.cons rfl (fun K hK => ?_) .nil)
     refine (if_pos (by rfl)).mpr ?_
     refine ow_storeB 1 HF.out tyI rfl rfl rfl rfl rfl rfl (z4 rfl) (by repeat' (first | exact z3 _ | refine z2 ?_ ?_ | rfl | (refine HF.out.oneM ?_;simp;done))) HB.out HNba.out ?_
     intro W2 hb HF1
     replace HB:=hid hb;simp only [setL,z0,z1] at HF1;replace HF:=hid HF1;clear hb HF1
     refine hK.out _ _ (fun _ => HB.out) fun hS => ?_;clear hK K
     try simp only [Act.put,zA,z0,z1]
     refine rd1 (i:=13) (by kernel_rfl) (.cons rfl (fun K hK => ?_) .nil)
     refine (if_pos (by rfl)).mpr ?_
     refine ow_storeB 0 HF.out tyI rfl rfl rfl rfl rfl rfl (z4 rfl) (by repeat' (first | exact z3 _ | refine z2 ?_ ?_ | rfl | (refine HF.out.oneM ?_;simp;done))) HB.out HNbb.out ?_
     intro W2 hb HF1
     replace HB:=hid hb;simp only [setL,z0,z1] at HF1;replace HF:=hid HF1;clear hb HF1
     refine hK.out _ _ (fun h => absurd h (by simp [Fr.setAll])) fun hS => ?_;clear hK K
     try simp only [Act.put,zA,z0,z1]
     refine wpAnyG_done (by kernel_rfl) ?_ _;clear hS
     go_wp2
     go_meet
     case rel => exact ⟨_,_,rfl,rfl,HF⟩
    ·skip
     refine (if_pos (by rfl)).mpr ?_
     refine ow_allocB HF.out tyI rfl ?_
     intro bb W2 hn hb HF1
     have HNbb:=hid (Nat.le_trans HB.out.size hn);replace HB:=hid (HB.out.trans (hb.mono HB.out.size));replace HF:=hid HF1;clear hn hb HF1
     refine hK.out _ _ (fun _ => HB.out) fun hS => ?_;clear hK K
     try simp only [Act.put,zA,z0,z1]
     refine rd1 (i:=10) (by kernel_rfl) (.cons rfl (fun K hK => ?_) .nil)
     refine (if_pos (by rfl)).mpr ?_
     refine ow_allocB HF.out tyI rfl ?_
     intro ba W2 hn hb HF1
     have HNba:=hid (Nat.le_trans HB.out.size hn);replace HB:=hid (HB.out.trans (hb.mono HB.out.size));replace HF:=hid HF1;clear hn hb HF1
     refine hK.out _ _ (fun _ => HB.out) fun hS => ?_;clear hK K
     try simp only [Act.put,zA,z0,z1]
     refine rd1 (i:=12) (by kernel_rfl) (.cons rfl (fun K hK => ?_) .nil)
     refine (if_pos (by rfl)).mpr ?_
     refine ow_storeB 0 HF.out tyI rfl rfl rfl rfl rfl rfl (z4 rfl) (by repeat' (first | exact z3 _ | refine z2 ?_ ?_ | rfl | (refine HF.out.oneM ?_;simp;done))) HB.out HNba.out ?_
     intro W2 hb HF1
     replace HB:=hid hb;simp only [setL,z0,z1] at HF1;replace HF:=hid HF1;clear hb HF1
     refine hK.out _ _ (fun _ => HB.out) fun hS => ?_;clear hK K
     try simp only [Act.put,zA,z0,z1]
     refine rd1 (i:=13) (by kernel_rfl) (.cons rfl (fun K hK => ?_) .nil)
     refine (if_pos (by rfl)).mpr ?_
     refine ow_storeB 1 HF.out tyI rfl rfl rfl rfl rfl rfl (z4 rfl) (by repeat' (first | exact z3 _ | refine z2 ?_ ?_ | rfl | (refine HF.out.oneM ?_;simp;done))) HB.out HNbb.out ?_
     intro W2 hb HF1
     replace HB:=hid hb;simp only [setL,z0,z1] at HF1;replace HF:=hid HF1;clear hb HF1
     refine hK.out _ _ (fun h => absurd h (by simp [Fr.setAll])) fun hS => ?_;clear hK K
     try simp only [Act.put,zA,z0,z1]
     refine wpAnyG_done (by kernel_rfl) ?_ _;clear hS
     replace HF:=hid HF.out.flip
     go_wp2
     go_meet
     case rel => exact ⟨_,_,rfl,rfl,HF⟩
   case rest =>
    clear HF HB eL fL
    obtain ⟨ba,bb,rfl,rfl,HF⟩:=hcut
    have e0:=HF.out.cellAt 1 rfl 0 rfl
    have f0:=HF.out.cellAt 0 rfl 0 rfl
    have e1:=HF.out.cellAt 1 rfl 1 rfl
    have f1:=HF.out.cellAt 0 rfl 1 rfl
    go_wp2
    go_roundg (ims.length - (j + 1))
    case rel => exact ⟨j + 1,rfl,hjl,by simp,HIN,hid HF.out.lessR.lessR⟩
    case measure => omega
  ·have hji : ¬ (j : Int) < (ims.length : Int):=by omega
   go_wp2
   clear eL fL hlba hlbb hji hjl HIN hg hj
   go_loopg [10] prs.length (fun gm v10 wr => ∃ j : Nat,gm = prs.length - j ∧ j ≤ prs.length ∧ v10 = .int .i64 j ∧ RowKit.Hid (Tr.prsS false (prs.drop j) (prs2.drop j) = true) ∧ RowKit.Hid (Fr.Fm w g Kp wr (.blk bb0 [.string ⟨mn.toArray⟩,.slice r1 ims.length s1,zv2,zv3,zv4,.slice r5 prs.length s5,zv6,.int .i64 np] :: .blk ba0 [.string ⟨mn.toArray⟩,.slice p1 ims.length q1,v2,v3,v4,.slice p5 prs.length q5,v6,.int .i64 mp] :: R) ((.slice p1 ims.length q1,Da.D.list 3 (ims.map imD)) :: (v2,Da.D.list 9 (mc.map cnD)) :: (v3,Da.D.list 13 (fdDs mt)) :: (v4,Da.D.list 13 (fdDs mv)) :: (.slice p5 prs.length q5,Da.D.list 10 (prs.map prD)) :: (v6,Da.D.list 6 (stDs mb)) :: ((.slice r1 ims.length s1,Da.D.list 3 (ims2.map imD)) :: (zv2,Da.D.list 9 (nc.map cnD)) :: (zv3,Da.D.list 13 (fdDs nt)) :: (zv4,Da.D.list 13 (fdDs nv)) :: (.slice r5 prs.length s5,Da.D.list 10 (prs2.map prD)) :: (zv6,Da.D.list 6 (stDs nb)) :: Ds))))
   case atStart => exact ⟨0,by simp,by omega,rfl,HIN2,HF⟩
   case round =>
    clear HF HIN2
    obtain ⟨j,hg,hj,rfl,HIN,HF⟩:=hrel
    have eL:=HF.out.cellAt 1 rfl 5 rfl
    have fL:=HF.out.cellAt 0 rfl 5 rfl
    have hlba:=HF.out.ltAt 1 rfl
    have hlbb:=HF.out.ltAt 0 rfl
    by_cases hjl : j < prs.length
    ·obtain ⟨bx6,off6,rfl⟩:=HP5.out (by omega)
     obtain ⟨by6,off7,rfl⟩:=HR5.out (by omega)
     have hji : (j : Int) < (prs.length : Int):=by omega
     have hj0 : (0 : Int) ≤ (j : Int):=by omega
     have hj1 : (j : Int) ≤ 9223372036854775807:=by omega
     have hjl2 : j < prs2.length:=by
      have h1:=HIN.out
      by_cases h2 : j < prs2.length
      ·exact h2
      ·rw [Tr.prsS_len (by simp;omega)] at h1;cases h1
     have hs:=HIN.out
     rw [List.drop_eq_getElem_cons hjl,List.drop_eq_getElem_cons hjl2] at hs
     have hi3 : (prs.map prD)[j]? = some (prD prs[j]):=by simp [hjl]
     have hi4 : (prs2.map prD)[j]? = some (prD prs2[j]):=by simp [hjl2]
     generalize prs[j] = x1 at hs hi3
     generalize prs2[j] = y1 at hs hi4
     obtain ⟨pn,po,pps,pre,⟨pc,pt,pv⟩,pb,prt,pp⟩:=x1
     obtain ⟨pn2,po2,pps2,pre2,⟨pc2,pt2,pv2⟩,pb2,prt2,pp2⟩:=y1
     unfold Tr.prsS Tr.prS Tr.deS at hs
     simp only [Bool.and_eq_true,Bool.not_eq_true',bne_eq_false_iff_eq] at hs
     obtain ⟨⟨⟨⟨⟨⟨⟨⟨rfl,rfl⟩,-⟩,ht1⟩,ht2⟩,⟨ht3,ht4⟩,ht5⟩,ht6⟩,ht7⟩,hsr⟩:=hs
     replace HIN:=hid hsr
     unfold prD at hi3 hi4
     obtain ⟨ca2,ra2,hra,hba2⟩:=HF.out.rowAt (m:=4) rfl j hi3
     obtain ⟨cb2,rb2,hrb,hbb2⟩:=HF.out.rowAt (m:=10) rfl j hi4
     obtain ⟨c0,c1,c2,c3,c4,c5,c6,c7,c8,c9,rfl,hc0,hc1,hc2,hc3,hc4,hc5,hc6,hc7,hc8,hc9⟩:=Fr.row10 hra;clear hra
     obtain rfl:=is_str hc0
     obtain rfl:=Fr.is_bool hc1
     obtain rfl:=Fr.is_int hc9
     clear hc0 hc1 hc9
     obtain ⟨d0,d1,d2,d3,d4,d5,d6,d7,d8,d9,rfl,hd0,hd1,hd2,hd3,hd4,hd5,hd6,hd7,hd8,hd9⟩:=Fr.row10 hrb;clear hrb
     obtain rfl:=is_str hd0
     obtain rfl:=Fr.is_bool hd1
     obtain rfl:=Fr.is_int hd9
     clear hd0 hd1 hd9
     replace HF:=hid ((((((((((((((HF.out.plus hd8).plus hd7).plus hd6).plus hd5).plus hd4).plus hd3).plus hd2).plus hc8).plus hc7).plus hc6).plus hc5).plus hc4).plus hc3).plus hc2)
     have HB:=hid ((Below.refl wr.heap.size wr).drew)
     clear hsr hc2 hd2 hc3 hd3 hc4 hd4 hc5 hd5 hc6 hd6 hc7 hd7 hc8 hd8
     go_wp2
     go_cut [11,12] from 128 to 137 (fun v8 v9 wc => ∃ ba bb : Nat,v8 = .pointer (some ⟨ba,0,none⟩) ∧ v9 = .pointer (some ⟨bb,0,none⟩) ∧ RowKit.Hid (Fr.Fm w g Kp wc (.blk bb [.string ⟨pn.toArray⟩,.bool po,d2,d3,d4,d5,d6,d7,d8,.int .i64 pp2] :: .blk ba [.string ⟨pn.toArray⟩,.bool po,c2,c3,c4,c5,c6,c7,c8,.int .i64 pp] :: .blk bb0 [.string ⟨mn.toArray⟩,.slice r1 ims.length s1,zv2,zv3,zv4,.slice (some ⟨by6,off7,none⟩) prs.length s5,zv6,.int .i64 np] :: .blk ba0 [.string ⟨mn.toArray⟩,.slice p1 ims.length q1,v2,v3,v4,.slice (some ⟨bx6,off6,none⟩) prs.length q5,v6,.int .i64 mp] :: R) ((c2,Da.D.list 13 (fdDs pps)) :: (c3,Da.D.list 10 (Tr.tyDs pre)) :: (c4,Da.D.list 9 (pc.map cnD)) :: (c5,Da.D.list 13 (fdDs pt)) :: (c6,Da.D.list 13 (fdDs pv)) :: (c7,Da.D.list 6 (stDs pb)) :: (c8,Da.D.list 6 (Tr.exDs prt)) :: (d2,Da.D.list 13 (fdDs pps2)) :: (d3,Da.D.list 10 (Tr.tyDs pre2)) :: (d4,Da.D.list 9 (pc2.map cnD)) :: (d5,Da.D.list 13 (fdDs pt2)) :: (d6,Da.D.list 13 (fdDs pv2)) :: (d7,Da.D.list 6 (stDs pb2)) :: (d8,Da.D.list 6 (Tr.exDs prt2)) :: ((.slice p1 ims.length q1,Da.D.list 3 (ims.map imD)) :: (v2,Da.D.list 9 (mc.map cnD)) :: (v3,Da.D.list 13 (fdDs mt)) :: (v4,Da.D.list 13 (fdDs mv)) :: (.slice (some ⟨bx6,off6,none⟩) prs.length q5,Da.D.list 10 (prs.map prD)) :: (v6,Da.D.list 6 (stDs mb)) :: ((.slice r1 ims.length s1,Da.D.list 3 (ims2.map imD)) :: (zv2,Da.D.list 9 (nc.map cnD)) :: (zv3,Da.D.list 13 (fdDs nt)) :: (zv4,Da.D.list 13 (fdDs nv)) :: (.slice (some ⟨by6,off7,none⟩) prs.length s5,Da.D.list 10 (prs2.map prD)) :: (zv6,Da.D.list 6 (stDs nb)) :: Ds)))))
     case first =>
      replace HF:=hid HF.out.drew
      refine wp_region_G (UpTo 13 (fun X => Below wr.heap.size wr X)) 14 (by kernel_rfl) (by kernel_rfl) (fun _ => HB.out) (fun _ hS => ?_)
      generalize World.drew _ = W1 at HF HB hS ⊢
      refine tkB (n:=14) (is:=[0,1,2,3,4,5,6,7,8,9]) [[0],[1],[2],[3],[4],[5],[6],[7],[8],[9]] (k:=10) rfl (by kernel_rfl) (fun d _ _ _ _ h => by cases d <;> exact h) hS ?_
      repeat (first | (refine wT (i:=1) (v:=.slice (some ⟨bx6,off6,none⟩) prs.length q5) rfl (by rfl) (fun X xb => ?_) ?_;(focus (have y:=(xb.cell (p:=⟨ba0,5,none⟩) hlba).trans eL;clear xb;go_simp;try with_reducible rfl))) | (refine wT (i:=4) (v:=.agg #[.string ⟨pn.toArray⟩,.bool po,c2,c3,c4,c5,c6,c7,c8,.int .i64 pp]) rfl (by rfl) (fun X xb => ?_) ?_;(focus (exact Fr.exec_row rfl rfl ra2 xb hba2 Tryz.underlying67 rfl tyPr rfl))) | (refine wT (i:=6) (v:=.slice (some ⟨by6,off7,none⟩) prs.length s5) rfl (by rfl) (fun X xb => ?_) ?_;(focus (have y:=(xb.cell (p:=⟨bb0,5,none⟩) hlbb).trans fL;clear xb;go_simp;try with_reducible rfl))) | (refine wT (i:=9) (v:=.agg #[.string ⟨pn.toArray⟩,.bool po,d2,d3,d4,d5,d6,d7,d8,.int .i64 pp2]) rfl (by rfl) (fun X xb => ?_) ?_;(focus (exact Fr.exec_row rfl rfl rb2 xb hbb2 Tryz.underlying67 rfl tyPr rfl))) | (refine wT (v:=?_) rfl (by rfl) (fun X hX => ?_) ?_;rotate_left 1;(focus (clear hX;go_simp;try with_reducible rfl))));try simp only [Act.put,zA,z0,z1]
      refine wE fun hS => ?_
      refine wpAnyG_ready (rs:=[10,11]) (by kernel_rfl) (by simp) ?_
      refine AllReadyG.cons rfl (fun K hK => ?_) (AllReadyG.cons rfl (fun K hK => ?_) AllReadyG.nil)
      ·skip
       refine (if_pos (by rfl)).mpr ?_
       refine ow_allocB HF.out tyPr rfl ?_
       intro ba W2 hn hb HF1
       have HNba:=hid (Nat.le_trans HB.out.size hn);replace HB:=hid (HB.out.trans (hb.mono HB.out.size));replace HF:=hid HF1;clear hn hb HF1
       refine hK.out _ _ (fun _ => HB.out) fun hS => ?_;clear hK K
       try simp only [Act.put,zA,z0,z1]
       refine rd1 (i:=11) (by kernel_rfl) (.cons rfl (fun K hK => ?_) .nil)
       refine (if_pos (by rfl)).mpr ?_
       refine ow_allocB HF.out tyPr rfl ?_
       intro bb W2 hn hb HF1
       have HNbb:=hid (Nat.le_trans HB.out.size hn);replace HB:=hid (HB.out.trans (hb.mono HB.out.size));replace HF:=hid HF1;clear hn hb HF1
       refine hK.out _ _ (fun _ => HB.out) fun hS => ?_;clear hK K
       try simp only [Act.put,zA,z0,z1]
       refine rd1 (i:=12) (by kernel_rfl) (.cons rfl (fun K hK => ?_) .nil)
       refine (if_pos (by rfl)).mpr ?_
       refine ow_storeB 1 HF.out tyPr rfl rfl rfl rfl rfl rfl (z4 rfl) (by repeat' (first | exact z3 _ | refine z2 ?_ ?_ | rfl | (refine HF.out.oneM ?_;simp;done))) HB.out HNba.out ?_
       intro W2 hb HF1
       replace HB:=hid hb;simp only [setL,z0,z1] at HF1;replace HF:=hid HF1;clear hb HF1
       refine hK.out _ _ (fun _ => HB.out) fun hS => ?_;clear hK K
       try simp only [Act.put,zA,z0,z1]
       refine rd1 (i:=13) (by kernel_rfl) (.cons rfl (fun K hK => ?_) .nil)
       refine (if_pos (by rfl)).mpr ?_
       refine ow_storeB 0 HF.out tyPr rfl rfl rfl rfl rfl rfl (z4 rfl) (by repeat' (first | exact z3 _ | refine z2 ?_ ?_ | rfl | (refine HF.out.oneM ?_;simp;done))) HB.out HNbb.out ?_
       intro W2 hb HF1
       replace HB:=hid hb;simp only [setL,z0,z1] at HF1;replace HF:=hid HF1;clear hb HF1
       refine hK.out _ _ (fun h => absurd h (by simp [Fr.setAll])) fun hS => ?_;clear hK K
       try simp only [Act.put,zA,z0,z1]
       refine wpAnyG_done (by kernel_rfl) ?_ _;clear hS
       go_wp2
       go_meet
       case rel => exact ⟨_,_,rfl,rfl,HF⟩
      ·skip
       refine (if_pos (by rfl)).mpr ?_
       refine ow_allocB HF.out tyPr rfl ?_
       intro bb W2 hn hb HF1
       have HNbb:=hid (Nat.le_trans HB.out.size hn);replace HB:=hid (HB.out.trans (hb.mono HB.out.size));replace HF:=hid HF1;clear hn hb HF1
       refine hK.out _ _ (fun _ => HB.out) fun hS => ?_;clear hK K
       try simp only [Act.put,zA,z0,z1]
       refine rd1 (i:=10) (by kernel_rfl) (.cons rfl (fun K hK => ?_) .nil)
       refine (if_pos (by rfl)).mpr ?_
       refine ow_allocB HF.out tyPr rfl ?_
       intro ba W2 hn hb HF1
       have HNba:=hid (Nat.le_trans HB.out.size hn);replace HB:=hid (HB.out.trans (hb.mono HB.out.size));replace HF:=hid HF1;clear hn hb HF1
       refine hK.out _ _ (fun _ => HB.out) fun hS => ?_;clear hK K
       try simp only [Act.put,zA,z0,z1]
       refine rd1 (i:=12) (by kernel_rfl) (.cons rfl (fun K hK => ?_) .nil)
       refine (if_pos (by rfl)).mpr ?_
       refine ow_storeB 0 HF.out tyPr rfl rfl rfl rfl rfl rfl (z4 rfl) (by repeat' (first | exact z3 _ | refine z2 ?_ ?_ | rfl | (refine HF.out.oneM ?_;simp;done))) HB.out HNba.out ?_
       intro W2 hb HF1
       replace HB:=hid hb;simp only [setL,z0,z1] at HF1;replace HF:=hid HF1;clear hb HF1
       refine hK.out _ _ (fun _ => HB.out) fun hS => ?_;clear hK K
       try simp only [Act.put,zA,z0,z1]
       refine rd1 (i:=13) (by kernel_rfl) (.cons rfl (fun K hK => ?_) .nil)
       refine (if_pos (by rfl)).mpr ?_
       refine ow_storeB 1 HF.out tyPr rfl rfl rfl rfl rfl rfl (z4 rfl) (by repeat' (first | exact z3 _ | refine z2 ?_ ?_ | rfl | (refine HF.out.oneM ?_;simp;done))) HB.out HNbb.out ?_
       intro W2 hb HF1
       replace HB:=hid hb;simp only [setL,z0,z1] at HF1;replace HF:=hid HF1;clear hb HF1
       refine hK.out _ _ (fun h => absurd h (by simp [Fr.setAll])) fun hS => ?_;clear hK K
       try simp only [Act.put,zA,z0,z1]
       refine wpAnyG_done (by kernel_rfl) ?_ _;clear hS
       replace HF:=hid HF.out.flip
       go_wp2
       go_meet
       case rel => exact ⟨_,_,rfl,rfl,HF⟩
     case rest =>
      clear HF HB eL fL
      obtain ⟨ba,bb,rfl,rfl,HF⟩:=hcut
      have e0:=HF.out.cellAt 1 rfl 0 rfl
      have f0:=HF.out.cellAt 0 rfl 0 rfl
      have e1:=HF.out.cellAt 1 rfl 1 rfl
      have f1:=HF.out.cellAt 0 rfl 1 rfl
      have e2:=HF.out.cellAt 1 rfl 2 rfl
      have f2:=HF.out.cellAt 0 rfl 2 rfl
      have e3:=HF.out.cellAt 1 rfl 3 rfl
      have f3:=HF.out.cellAt 0 rfl 3 rfl
      have e4:=HF.out.cellAt 1 rfl 4 rfl
      have f4:=HF.out.cellAt 0 rfl 4 rfl
      have e5:=HF.out.cellAt 1 rfl 5 rfl
      have f5:=HF.out.cellAt 0 rfl 5 rfl
      have e6:=HF.out.cellAt 1 rfl 6 rfl
      have f6:=HF.out.cellAt 0 rfl 6 rfl
      have e7:=HF.out.cellAt 1 rfl 7 rfl
      have f7:=HF.out.cellAt 0 rfl 7 rfl
      have e8:=HF.out.cellAt 1 rfl 8 rfl
      have f8:=HF.out.cellAt 0 rfl 8 rfl
      go_wp2_with (first
       | (go_at_call 24;(with_reducible refine (rparams_all pps pps2 false 0 7 _ _ rfl rfl ht1 (by simp) HF.out).mono ?_);rintro e W3 ⟨rfl,HF1⟩;replace HF:=hid HF1;clear HF1;have e3:=HF.out.cellAt 1 rfl 3 rfl;have f3:=HF.out.cellAt 0 rfl 3 rfl;have e4:=HF.out.cellAt 1 rfl 4 rfl;have f4:=HF.out.cellAt 0 rfl 4 rfl;have e5:=HF.out.cellAt 1 rfl 5 rfl;have f5:=HF.out.cellAt 0 rfl 5 rfl;have e6:=HF.out.cellAt 1 rfl 6 rfl;have f6:=HF.out.cellAt 0 rfl 6 rfl;have e7:=HF.out.cellAt 1 rfl 7 rfl;have f7:=HF.out.cellAt 0 rfl 7 rfl;have e8:=HF.out.cellAt 1 rfl 8 rfl;have f8:=HF.out.cellAt 0 rfl 8 rfl)
       | (go_at_call 25;(with_reducible refine (rtypes_all pre pre2 false 1 8 _ _ rfl rfl ht2 (by simp) HF.out).mono ?_);rintro e W3 ⟨rfl,HF1⟩;replace HF:=hid HF1;clear HF1;have e3:=HF.out.cellAt 1 rfl 3 rfl;have f3:=HF.out.cellAt 0 rfl 3 rfl;have e4:=HF.out.cellAt 1 rfl 4 rfl;have f4:=HF.out.cellAt 0 rfl 4 rfl;have e5:=HF.out.cellAt 1 rfl 5 rfl;have f5:=HF.out.cellAt 0 rfl 5 rfl;have e6:=HF.out.cellAt 1 rfl 6 rfl;have f6:=HF.out.cellAt 0 rfl 6 rfl;have e7:=HF.out.cellAt 1 rfl 7 rfl;have f7:=HF.out.cellAt 0 rfl 7 rfl;have e8:=HF.out.cellAt 1 rfl 8 rfl;have f8:=HF.out.cellAt 0 rfl 8 rfl)
       | (go_at_call 20;(with_reducible refine (rconsts_all pc pc2 false 2 9 _ _ rfl rfl ht3 (by simp) HF.out).mono ?_);rintro e W3 ⟨rfl,HF1⟩;replace HF:=hid HF1;clear HF1;have e3:=HF.out.cellAt 1 rfl 3 rfl;have f3:=HF.out.cellAt 0 rfl 3 rfl;have e4:=HF.out.cellAt 1 rfl 4 rfl;have f4:=HF.out.cellAt 0 rfl 4 rfl;have e5:=HF.out.cellAt 1 rfl 5 rfl;have f5:=HF.out.cellAt 0 rfl 5 rfl;have e6:=HF.out.cellAt 1 rfl 6 rfl;have f6:=HF.out.cellAt 0 rfl 6 rfl;have e7:=HF.out.cellAt 1 rfl 7 rfl;have f7:=HF.out.cellAt 0 rfl 7 rfl;have e8:=HF.out.cellAt 1 rfl 8 rfl;have f8:=HF.out.cellAt 0 rfl 8 rfl)
       | (go_at_call 21;(with_reducible refine (rtdecls_all pt pt2 false 3 10 _ _ rfl rfl ht4 (by simp) HF.out).mono ?_);rintro e W3 ⟨rfl,HF1⟩;replace HF:=hid HF1;clear HF1;have e3:=HF.out.cellAt 1 rfl 3 rfl;have f3:=HF.out.cellAt 0 rfl 3 rfl;have e4:=HF.out.cellAt 1 rfl 4 rfl;have f4:=HF.out.cellAt 0 rfl 4 rfl;have e5:=HF.out.cellAt 1 rfl 5 rfl;have f5:=HF.out.cellAt 0 rfl 5 rfl;have e6:=HF.out.cellAt 1 rfl 6 rfl;have f6:=HF.out.cellAt 0 rfl 6 rfl;have e7:=HF.out.cellAt 1 rfl 7 rfl;have f7:=HF.out.cellAt 0 rfl 7 rfl;have e8:=HF.out.cellAt 1 rfl 8 rfl;have f8:=HF.out.cellAt 0 rfl 8 rfl)
       | (go_at_call 22;(with_reducible refine (rvars_all pv pv2 false 4 11 _ _ rfl rfl ht5 (by simp) HF.out).mono ?_);rintro e W3 ⟨rfl,HF1⟩;replace HF:=hid HF1;clear HF1;have e3:=HF.out.cellAt 1 rfl 3 rfl;have f3:=HF.out.cellAt 0 rfl 3 rfl;have e4:=HF.out.cellAt 1 rfl 4 rfl;have f4:=HF.out.cellAt 0 rfl 4 rfl;have e5:=HF.out.cellAt 1 rfl 5 rfl;have f5:=HF.out.cellAt 0 rfl 5 rfl;have e6:=HF.out.cellAt 1 rfl 6 rfl;have f6:=HF.out.cellAt 0 rfl 6 rfl;have e7:=HF.out.cellAt 1 rfl 7 rfl;have f7:=HF.out.cellAt 0 rfl 7 rfl;have e8:=HF.out.cellAt 1 rfl 8 rfl;have f8:=HF.out.cellAt 0 rfl 8 rfl)
       | (go_at_call 23;(with_reducible refine (rstats_all pb pb2 false 5 12 _ _ rfl rfl ht6 (by simp) HF.out).mono ?_);rintro e W3 ⟨rfl,HF1⟩;replace HF:=hid HF1;clear HF1;have e3:=HF.out.cellAt 1 rfl 3 rfl;have f3:=HF.out.cellAt 0 rfl 3 rfl;have e4:=HF.out.cellAt 1 rfl 4 rfl;have f4:=HF.out.cellAt 0 rfl 4 rfl;have e5:=HF.out.cellAt 1 rfl 5 rfl;have f5:=HF.out.cellAt 0 rfl 5 rfl;have e6:=HF.out.cellAt 1 rfl 6 rfl;have f6:=HF.out.cellAt 0 rfl 6 rfl;have e7:=HF.out.cellAt 1 rfl 7 rfl;have f7:=HF.out.cellAt 0 rfl 7 rfl;have e8:=HF.out.cellAt 1 rfl 8 rfl;have f8:=HF.out.cellAt 0 rfl 8 rfl)
       | (go_at_call 26;(with_reducible refine (rexprs_all prt prt2 false 6 13 _ _ rfl rfl ht7 (by simp) HF.out).mono ?_);rintro e W3 ⟨rfl,HF1⟩;replace HF:=hid HF1;clear HF1))
      go_roundg (prs.length - (j + 1))
      case rel => exact ⟨j + 1,rfl,hjl,by simp,HIN,hid HF.out.lessR.lessR.less.less.less.less.less.less.less.less.less.less.less.less.less.less⟩
      case measure => omega
    ·have hji : ¬ (j : Int) < (prs.length : Int):=by omega
     go_wp2
     refine bodyPost_ret (v:=.bool true) (by simp [results,Tryz.results9,go_sem];try rfl) rfl ⟨rfl,HF.out.lessR.lessR⟩
end Go.Proofs.YtlhmkfcbldghfaaGreatDoor
