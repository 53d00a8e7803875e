/- The walk of the document's SameTypes at types that are alike. Conditions: the lists are told;places are asked of empty lists alone. -/
import Derived.Test.YtlhmkfcbldghfaaGreatDoorSmD
namespace Go.Proofs.YtlhmkfcbldghfaaGreatDoor
set_option linter.all false
open Go.Lib (hid)
set_option maxRecDepth 1000000
set_option maxHeartbeats 16000000
open Go.RowKit
open Fr (tkB tkM wT wN wE)
open Fr (is_int is_str ow_allocB ow_storeB setL tyF tyT)
open Tr (exDs fdDs tyD tyDs)
namespace Fr
open Da Tr
theorem Fm.two {w W : World} {g : Option Nat} {Kp : World → Prop} {R : List RI} {Ds : List (Value × D)} {a3 a4 a5 a6 a7 a8 b3 b4 b5 b6 b7 b8 : Value × D} (h : Fm w g Kp W R (a3 :: a4 :: a5 :: a6 :: a7 :: a8 :: b3 :: b4 :: b5 :: b6 :: b7 :: b8 :: Ds)) : Fm w g Kp W R (a6 :: b6 :: Ds):=
 (h.less.less.less.less.less.less.less.less.less.less.less.less.plus (h.da 9 _ _ rfl)).plus (h.da 3 _ _ rfl)
end Fr
theorem rtypes_step (xs : List Tr.Ty) (ih : ∀ us : List Tr.Ty,SizeOf.sizeOf us < SizeOf.sizeOf xs → RsTy us) : RsTy xs:=by
 intro w W g Kp R Ds ys pl m n v u hd hu hs hp h
 have hlen : xs.length = ys.length:=by
  by_cases he : xs.length = ys.length
  ·exact he
  ·rw [Tr.tysS_len he] at hs;cases hs
 obtain ⟨p,c,rfl,hl,hpp⟩:=h.daSlice hd
 obtain ⟨p2,c2,rfl,hl2,hpp2⟩:=h.daSlice hu
 have tl : ∀ us : List Tr.Ty,(tyDs us).length = us.length:=fun us => by rw [Tr.tyDs_map,List.length_map]
 rw [tl] at hl hpp hd hl2 hpp2 hu ⊢
 rw [tl,← hlen]
 rw [← hlen] at hl2 hpp2 hu
 have HF:=hid h
 have HD:=hid hd
 have HU:=hid hu
 have HP:=hid hpp
 have HP2:=hid hpp2
 have HR : RowKit.Hid (∀ us : List Tr.Ty,SizeOf.sizeOf us < SizeOf.sizeOf xs → RsTy us):=hid ih
 have HS:=hid hs
 have HPL:=hid hp
 have HLN:=hid hlen
 have hl3 : (xs.length : Int) ≤ 9223372036854775807:=by omega
 clear h hd hu hpp hpp2 hs hp hlen hl2 ih
 go_enter Tryz.func25,Tryz.ntmps25
 go_wp2
 go_loopg [7] xs.length (fun gm v7 wr => ∃ k : Nat,gm = xs.length - k ∧ k ≤ xs.length ∧ v7 = .int .i64 k ∧ RowKit.Hid (Tr.tysS pl (xs.drop k) (ys.drop k) = true) ∧ RowKit.Hid (Fr.Fm w g Kp wr R Ds))
 case atStart => exact ⟨0,by simp,by omega,rfl,HS,HF⟩
 case round =>
  clear HF HS
  obtain ⟨k,hg,hk,rfl,HS,HF⟩:=hrel
  by_cases hlt : k < xs.length
  ·obtain ⟨b,off,rfl⟩:=HP.out (by omega)
   obtain ⟨b2,off2,rfl⟩:=HP2.out (by omega)
   have hki : (k : Int) < (xs.length : Int):=by omega
   have hk0 : (0 : Int) ≤ (k : Int):=by omega
   have hk1 : (k : Int) ≤ 9223372036854775807:=by omega
   have hlt2 : k < ys.length:=by have:=HLN.out;omega
   obtain rfl : pl = false:=by
    cases pl with
    | false => rfl
    | true => have:=HPL.out rfl;rw [this] at hlt;simp at hlt
   have hs:=HS.out
   rw [List.drop_eq_getElem_cons hlt,List.drop_eq_getElem_cons hlt2] at hs
   have hmem : xs[k] ∈ xs:=List.getElem_mem hlt
   have hi : (tyDs xs)[k]? = some (tyD xs[k]):=by rw [Tr.tyDs_map];simp [hlt]
   have hi2 : (tyDs ys)[k]? = some (tyD ys[k]):=by rw [Tr.tyDs_map];simp [hlt2]
   generalize xs[k] = x0 at hs hmem hi
   generalize ys[k] = y0 at hs hi2
   obtain ⟨xk,xm,xn,xls,xel,xba,xfs,xps,xrs,xq⟩:=x0
   obtain ⟨yk,ym,yn,yls,yel,yba,yfs,yps,yrs,yq⟩:=y0
   have hsz:=List.sizeOf_lt_of_mem hmem
   simp only [Tr.Ty.mk.sizeOf_spec] at hsz
   unfold Tr.tysS Tr.tyS at hs
   simp only [Bool.and_eq_true,Bool.not_eq_true',bne_eq_false_iff_eq] at hs
   obtain ⟨⟨⟨⟨⟨⟨⟨⟨⟨⟨rfl,rfl⟩,rfl⟩,-⟩,hs5⟩,hs6⟩,hs7⟩,hs8⟩,hs9⟩,hs10⟩,hsr⟩:=hs
   replace HS:=hid hsr
   have hz1 : SizeOf.sizeOf xel < SizeOf.sizeOf xs:=by omega
   have hz2 : SizeOf.sizeOf xba < SizeOf.sizeOf xs:=by omega
   have hz3 : SizeOf.sizeOf xrs < SizeOf.sizeOf xs:=by omega
   have hz4 : SizeOf.sizeOf xfs < SizeOf.sizeOf xs:=by omega
   have HTp : ∀ f ∈ xps,RsTy [f.2.2.1]:=fun f hf => by
    have hsf:=List.sizeOf_lt_of_mem hf
    obtain ⟨nm,ex,tf,pf⟩:=f
    have hw : SizeOf.sizeOf [tf] < SizeOf.sizeOf xs:=by
     simp only [Prod.mk.sizeOf_spec,List.cons.sizeOf_spec,List.nil.sizeOf_spec] at hsf ⊢
     omega
    show RsTy [tf]
    exact @fun w W g Kp R Ds => HR.out [tf] hw
   have hfl : xfs.length = yfs.length:=by
    by_cases he : xfs.length = yfs.length
    ·exact he
    ·rw [Tr.fdsS_len he] at hs10;cases hs10
   unfold tyD at hi hi2
   obtain ⟨ca,ra,hra,hba⟩:=HF.out.rowAt HD.out k hi
   obtain ⟨cb,rb,hrb,hbb⟩:=HF.out.rowAt HU.out k hi2
   obtain ⟨a0,a1,a2,a3,a4,a5,a6,a7,a8,a9,rfl,ha0,ha1,ha2,ha3,ha4,ha5,ha6,ha7,ha8,ha9⟩:=Fr.row10 hra;clear hra
   obtain rfl:=is_str ha1
   obtain rfl:=is_str ha2
   obtain rfl:=is_int ha0
   obtain rfl:=is_int ha9
   clear ha0 ha1 ha2 ha9
   obtain ⟨b0,b1,b2,b3,b4,b5,b6,b7,b8,b9,rfl,hb0,hb1,hb2,hb3,hb4,hb5,hb6,hb7,hb8,hb9⟩:=Fr.row10 hrb;clear hrb
   obtain rfl:=is_str hb1
   obtain rfl:=is_str hb2
   obtain rfl:=is_int hb0
   obtain rfl:=is_int hb9
   clear hb0 hb1 hb2 hb9
   replace HF:=hid ((((((((((((HF.out.plus hb8).plus hb7).plus hb6).plus hb5).plus hb4).plus hb3).plus ha8).plus ha7).plus ha6).plus ha5).plus ha4).plus ha3)
   obtain ⟨ap6,a6c,rfl,hla,hpa⟩:=HF.out.daSlice (m:=3) rfl
   obtain ⟨bp6,b6c,rfl,hlb,hpb⟩:=HF.out.daSlice (m:=9) rfl
   rw [Fr.fdDs_len'] at hla hpa hlb hpb
   rw [← hfl] at hlb hpb
   simp only [Fr.fdDs_len',← hfl] at HF ra rb
   have HPA:=hid hpa
   have HPB:=hid hpb
   have HFL:=hid hfl
   have HS10:=hid hs10
   have HB:=hid ((Below.refl wr.heap.size wr).drew)
   clear hsr hmem hpa hpb hfl hs10 hsz ha3 hb3 ha4 hb4 ha5 hb5 ha7 hb7 ha8 hb8
   try simp only [Fr.fdDs_len',← HFL.out]
   go_wp2
   go_cut [8,9] from 24 to 31 (fun v8 v9 wc => ∃ ba bb : Nat,v8 = .pointer (some ⟨ba,0,none⟩) ∧ v9 = .pointer (some ⟨bb,0,none⟩) ∧ RowKit.Hid (Fr.Fm w g Kp wc (.blk bb [.int .i64 xk,.string ⟨xm.toArray⟩,.string ⟨xn.toArray⟩,b3,b4,b5,(.slice bp6 xfs.length b6c),b7,b8,.int .i64 yq] :: .blk ba [.int .i64 xk,.string ⟨xm.toArray⟩,.string ⟨xn.toArray⟩,a3,a4,a5,(.slice ap6 xfs.length a6c),a7,a8,.int .i64 xq] :: R) ((a3,Da.D.list 6 (exDs xls)) :: (a4,Da.D.list 10 (tyDs xel)) :: (a5,Da.D.list 10 (tyDs xba)) :: (.slice ap6 xfs.length a6c,Da.D.list 13 (fdDs xfs)) :: (a7,Da.D.list 13 (fdDs xps)) :: (a8,Da.D.list 10 (tyDs xrs)) :: (b3,Da.D.list 6 (exDs yls)) :: (b4,Da.D.list 10 (tyDs yel)) :: (b5,Da.D.list 10 (tyDs yba)) :: (.slice bp6 xfs.length b6c,Da.D.list 13 (fdDs yfs)) :: (b7,Da.D.list 13 (fdDs yps)) :: (b8,Da.D.list 10 (tyDs yrs)) :: Ds)))
   case first =>
    replace HF:=hid HF.out.drew
    refine wp_region_G (UpTo 11 (fun X => Below wr.heap.size wr X)) 12 (by kernel_rfl) (by kernel_rfl) (fun _ => HB.out) (fun _ hS => ?_)
    generalize World.drew _ = W1 at HF HB hS ⊢
    refine tkB (n:=12) (is:=[0,1,2,3,4,5,6,7]) [[0],[1],[2],[3],[4],[5],[6],[7]] (k:=8) rfl (by kernel_rfl) (fun d _ _ _ _ h => by cases d <;> exact h) hS ?_
    repeat (first | (refine wT (i:=3) (v:=.agg #[.int .i64 xk,.string ⟨xm.toArray⟩,.string ⟨xn.toArray⟩,a3,a4,a5,(.slice ap6 xfs.length a6c),a7,a8,.int .i64 xq]) rfl (by rfl) (fun X xb => ?_) ?_;(focus (exact Fr.exec_row rfl rfl ra xb hba Tryz.underlying123 rfl tyT rfl))) | (refine wT (i:=7) (v:=.agg #[.int .i64 xk,.string ⟨xm.toArray⟩,.string ⟨xn.toArray⟩,b3,b4,b5,(.slice bp6 xfs.length b6c),b7,b8,.int .i64 yq]) rfl (by rfl) (fun X xb => ?_) ?_;(focus (exact Fr.exec_row rfl rfl rb xb hbb Tryz.underlying123 rfl tyT rfl))) | (refine wT (v:=?_) rfl (by rfl) (fun X hX => ?_) ?_;rotate_left 1;(focus (clear hX;go_simp;try with_reducible rfl))));try simp only [Act.put,zA,z0,z1]
    refine wE fun hS => ?_
    refine wpAnyG_ready (rs:=[8,9]) (by kernel_rfl) (by simp) ?_
    refine AllReadyG.cons rfl (fun K hK => ?_) (AllReadyG.cons rfl (fun K hK => ?_) AllReadyG.nil)
    ·skip
     refine (if_pos (by rfl)).mpr ?_
     refine ow_allocB HF.out tyT rfl ?_
     intro ba W2 hn hb HF1
     have HNba:=hid (Nat.le_trans HB.out.size hn);replace HB:=hid (HB.out.trans (hb.mono HB.out.size));replace HF:=hid HF1;clear hn hb HF1
     refine hK.out _ _ (fun _ => HB.out) fun hS => ?_;clear hK K
     try simp only [Act.put,zA,z0,z1]
     refine rd1 (i:=9) (by kernel_rfl) (.cons rfl (fun K hK => ?_) .nil)
     refine (if_pos (by rfl)).mpr ?_
     refine ow_allocB HF.out tyT rfl ?_
     intro bb W2 hn hb HF1
     have HNbb:=hid (Nat.le_trans HB.out.size hn);replace HB:=hid (HB.out.trans (hb.mono HB.out.size));replace HF:=hid HF1;clear hn hb HF1
     refine hK.out _ _ (fun _ => HB.out) fun hS => ?_;clear hK K
     try simp only [Act.put,zA,z0,z1]
     refine rd1 (i:=10) (by kernel_rfl) (.cons rfl (fun K hK => ?_) .nil)
     refine (if_pos (by rfl)).mpr ?_
     refine ow_storeB 1 HF.out tyT rfl rfl rfl rfl rfl rfl (z4 rfl) (by repeat' (first | exact z3 _ | refine z2 ?_ ?_ | rfl | (refine HF.out.oneM ?_;simp;done))) HB.out HNba.out ?_
     intro W2 hb HF1
     replace HB:=hid hb;simp only [setL,z0,z1] at HF1;replace HF:=hid HF1;clear hb HF1
     refine hK.out _ _ (fun _ => HB.out) fun hS => ?_;clear hK K
     try simp only [Act.put,zA,z0,z1]
     refine rd1 (i:=11) (by kernel_rfl) (.cons rfl (fun K hK => ?_) .nil)
     refine (if_pos (by rfl)).mpr ?_
     refine ow_storeB 0 HF.out tyT rfl rfl rfl rfl rfl rfl (z4 rfl) (by repeat' (first | exact z3 _ | refine z2 ?_ ?_ | rfl | (refine HF.out.oneM ?_;simp;done))) HB.out HNbb.out ?_
     intro W2 hb HF1
     replace HB:=hid hb;simp only [setL,z0,z1] at HF1;replace HF:=hid HF1;clear hb HF1
     refine hK.out _ _ (fun h => absurd h (by simp [Fr.setAll])) fun hS => ?_;clear hK K
     try simp only [Act.put,zA,z0,z1]
     refine wpAnyG_done (by kernel_rfl) ?_ _;clear hS
     go_wp2
     go_meet
     case rel => exact ⟨_,_,rfl,rfl,HF⟩
    ·skip
     refine (if_pos (by rfl)).mpr ?_
     refine ow_allocB HF.out tyT rfl ?_
     intro bb W2 hn hb HF1
     have HNbb:=hid (Nat.le_trans HB.out.size hn);replace HB:=hid (HB.out.trans (hb.mono HB.out.size));replace HF:=hid HF1;clear hn hb HF1
     refine hK.out _ _ (fun _ => HB.out) fun hS => ?_;clear hK K
     try simp only [Act.put,zA,z0,z1]
     refine rd1 (i:=8) (by kernel_rfl) (.cons rfl (fun K hK => ?_) .nil)
     refine (if_pos (by rfl)).mpr ?_
     refine ow_allocB HF.out tyT rfl ?_
     intro ba W2 hn hb HF1
     have HNba:=hid (Nat.le_trans HB.out.size hn);replace HB:=hid (HB.out.trans (hb.mono HB.out.size));replace HF:=hid HF1;clear hn hb HF1
     refine hK.out _ _ (fun _ => HB.out) fun hS => ?_;clear hK K
     try simp only [Act.put,zA,z0,z1]
     refine rd1 (i:=10) (by kernel_rfl) (.cons rfl (fun K hK => ?_) .nil)
     refine (if_pos (by rfl)).mpr ?_
     refine ow_storeB 0 HF.out tyT rfl rfl rfl rfl rfl rfl (z4 rfl) (by repeat' (first | exact z3 _ | refine z2 ?_ ?_ | rfl | (refine HF.out.oneM ?_;simp;done))) HB.out HNba.out ?_
     intro W2 hb HF1
     replace HB:=hid hb;simp only [setL,z0,z1] at HF1;replace HF:=hid HF1;clear hb HF1
     refine hK.out _ _ (fun _ => HB.out) fun hS => ?_;clear hK K
     try simp only [Act.put,zA,z0,z1]
     refine rd1 (i:=11) (by kernel_rfl) (.cons rfl (fun K hK => ?_) .nil)
     refine (if_pos (by rfl)).mpr ?_
     refine ow_storeB 1 HF.out tyT rfl rfl rfl rfl rfl rfl (z4 rfl) (by repeat' (first | exact z3 _ | refine z2 ?_ ?_ | rfl | (refine HF.out.oneM ?_;simp;done))) HB.out HNbb.out ?_
     intro W2 hb HF1
     replace HB:=hid hb;simp only [setL,z0,z1] at HF1;replace HF:=hid HF1;clear hb HF1
     refine hK.out _ _ (fun h => absurd h (by simp [Fr.setAll])) fun hS => ?_;clear hK K
     try simp only [Act.put,zA,z0,z1]
     refine wpAnyG_done (by kernel_rfl) ?_ _;clear hS
     replace HF:=hid HF.out.flip
     go_wp2
     go_meet
     case rel => exact ⟨_,_,rfl,rfl,HF⟩
   case rest =>
    clear HF HB
    obtain ⟨ba,bb,rfl,rfl,HF⟩:=hcut
    have e0:=HF.out.cellAt 1 rfl 0 rfl
    have f0:=HF.out.cellAt 0 rfl 0 rfl
    have e1:=HF.out.cellAt 1 rfl 1 rfl
    have f1:=HF.out.cellAt 0 rfl 1 rfl
    have e2:=HF.out.cellAt 1 rfl 2 rfl
    have f2:=HF.out.cellAt 0 rfl 2 rfl
    have e3:=HF.out.cellAt 1 rfl 3 rfl
    have f3:=HF.out.cellAt 0 rfl 3 rfl
    have e4:=HF.out.cellAt 1 rfl 4 rfl
    have f4:=HF.out.cellAt 0 rfl 4 rfl
    have e5:=HF.out.cellAt 1 rfl 5 rfl
    have f5:=HF.out.cellAt 0 rfl 5 rfl
    have e6:=HF.out.cellAt 1 rfl 6 rfl
    have f6:=HF.out.cellAt 0 rfl 6 rfl
    have e7:=HF.out.cellAt 1 rfl 7 rfl
    have f7:=HF.out.cellAt 0 rfl 7 rfl
    have e8:=HF.out.cellAt 1 rfl 8 rfl
    have f8:=HF.out.cellAt 0 rfl 8 rfl
    go_wp2_with (first
     | (go_at_call 26;(with_reducible refine (rexprs_all xls yls false 0 6 _ _ rfl rfl hs5 (by simp) HF.out).mono ?_);rintro e W3 ⟨rfl,HF1⟩;replace HF:=hid HF1;clear HF1;have e3:=HF.out.cellAt 1 rfl 3 rfl;have f3:=HF.out.cellAt 0 rfl 3 rfl;have e4:=HF.out.cellAt 1 rfl 4 rfl;have f4:=HF.out.cellAt 0 rfl 4 rfl;have e5:=HF.out.cellAt 1 rfl 5 rfl;have f5:=HF.out.cellAt 0 rfl 5 rfl;have e7:=HF.out.cellAt 1 rfl 7 rfl;have f7:=HF.out.cellAt 0 rfl 7 rfl;have e8:=HF.out.cellAt 1 rfl 8 rfl;have f8:=HF.out.cellAt 0 rfl 8 rfl)
     | (go_at_call 25;first | ((with_reducible refine (HR.out xel hz1 yel false 1 7 _ _ rfl rfl hs6 (by simp) HF.out).mono ?_);rintro e W3 ⟨rfl,HF1⟩;replace HF:=hid HF1;clear HF1;have e3:=HF.out.cellAt 1 rfl 3 rfl;have f3:=HF.out.cellAt 0 rfl 3 rfl;have e4:=HF.out.cellAt 1 rfl 4 rfl;have f4:=HF.out.cellAt 0 rfl 4 rfl;have e5:=HF.out.cellAt 1 rfl 5 rfl;have f5:=HF.out.cellAt 0 rfl 5 rfl;have e7:=HF.out.cellAt 1 rfl 7 rfl;have f7:=HF.out.cellAt 0 rfl 7 rfl;have e8:=HF.out.cellAt 1 rfl 8 rfl;have f8:=HF.out.cellAt 0 rfl 8 rfl) | ((with_reducible refine (HR.out xba hz2 yba false 2 8 _ _ rfl rfl hs7 (by simp) HF.out).mono ?_);rintro e W3 ⟨rfl,HF1⟩;replace HF:=hid HF1;clear HF1;have e3:=HF.out.cellAt 1 rfl 3 rfl;have f3:=HF.out.cellAt 0 rfl 3 rfl;have e4:=HF.out.cellAt 1 rfl 4 rfl;have f4:=HF.out.cellAt 0 rfl 4 rfl;have e5:=HF.out.cellAt 1 rfl 5 rfl;have f5:=HF.out.cellAt 0 rfl 5 rfl;have e7:=HF.out.cellAt 1 rfl 7 rfl;have f7:=HF.out.cellAt 0 rfl 7 rfl;have e8:=HF.out.cellAt 1 rfl 8 rfl;have f8:=HF.out.cellAt 0 rfl 8 rfl) | ((with_reducible refine (HR.out xrs hz3 yrs false 5 11 _ _ rfl rfl hs9 (by simp) HF.out).mono ?_);rintro e W3 ⟨rfl,HF1⟩;replace HF:=hid HF1;clear HF1;have e3:=HF.out.cellAt 1 rfl 3 rfl;have f3:=HF.out.cellAt 0 rfl 3 rfl;have e4:=HF.out.cellAt 1 rfl 4 rfl;have f4:=HF.out.cellAt 0 rfl 4 rfl;have e5:=HF.out.cellAt 1 rfl 5 rfl;have f5:=HF.out.cellAt 0 rfl 5 rfl;have e7:=HF.out.cellAt 1 rfl 7 rfl;have f7:=HF.out.cellAt 0 rfl 7 rfl;have e8:=HF.out.cellAt 1 rfl 8 rfl;have f8:=HF.out.cellAt 0 rfl 8 rfl))
     | (go_at_call 24;(with_reducible refine (rparams_step xps HTp yps false 4 10 _ _ rfl rfl hs8 (by simp) HF.out).mono ?_);rintro e W3 ⟨rfl,HF1⟩;replace HF:=hid HF1;clear HF1;have e3:=HF.out.cellAt 1 rfl 3 rfl;have f3:=HF.out.cellAt 0 rfl 3 rfl;have e4:=HF.out.cellAt 1 rfl 4 rfl;have f4:=HF.out.cellAt 0 rfl 4 rfl;have e5:=HF.out.cellAt 1 rfl 5 rfl;have f5:=HF.out.cellAt 0 rfl 5 rfl;have e7:=HF.out.cellAt 1 rfl 7 rfl;have f7:=HF.out.cellAt 0 rfl 7 rfl;have e8:=HF.out.cellAt 1 rfl 8 rfl;have f8:=HF.out.cellAt 0 rfl 8 rfl))
    replace HF : RowKit.Hid (Fr.Fm w g Kp _ (.blk bb [.int .i64 xk,.string ⟨xm.toArray⟩,.string ⟨xn.toArray⟩,b3,b4,b5,(.slice bp6 xfs.length b6c),b7,b8,.int .i64 yq] :: .blk ba [.int .i64 xk,.string ⟨xm.toArray⟩,.string ⟨xn.toArray⟩,a3,a4,a5,(.slice ap6 xfs.length a6c),a7,a8,.int .i64 xq] :: R) ((.slice ap6 xfs.length a6c,Da.D.list 13 (fdDs xfs)) :: (.slice bp6 xfs.length b6c,Da.D.list 13 (fdDs yfs)) :: Ds)):=hid (by have h1:=HF.out;exact Fr.Fm.two h1)
    clear e0 e1 e2 e3 e4 e5 e6 e7 e8 f0 f1 f2 f3 f4 f5 f6 f7 f8
    go_loopg [10] xfs.length (fun gm v10 wr2 => ∃ j : Nat,gm = xfs.length - j ∧ j ≤ xfs.length ∧ v10 = .int .i64 j ∧ RowKit.Hid (Tr.fdsS false (xfs.drop j) (yfs.drop j) = true) ∧ RowKit.Hid (Fr.Fm w g Kp wr2 (.blk bb [.int .i64 xk,.string ⟨xm.toArray⟩,.string ⟨xn.toArray⟩,b3,b4,b5,(.slice bp6 xfs.length b6c),b7,b8,.int .i64 yq] :: .blk ba [.int .i64 xk,.string ⟨xm.toArray⟩,.string ⟨xn.toArray⟩,a3,a4,a5,(.slice ap6 xfs.length a6c),a7,a8,.int .i64 xq] :: R) ((.slice ap6 xfs.length a6c,Da.D.list 13 (fdDs xfs)) :: (.slice bp6 xfs.length b6c,Da.D.list 13 (fdDs yfs)) :: Ds)))
    case atStart => exact ⟨0,by simp,by omega,rfl,HS10,HF⟩
    case round =>
     have HG:=hid hg
     clear HF hg HS10
     obtain ⟨j,hg,hj,rfl,HS10,HF⟩:=hrel
     have e6:=HF.out.cellAt 1 rfl 6 rfl
     have f6:=HF.out.cellAt 0 rfl 6 rfl
     have hlba:=HF.out.ltAt 1 rfl
     have hlbb:=HF.out.ltAt 0 rfl
     by_cases hjl : j < xfs.length
     ·obtain ⟨bx6,off6,rfl⟩:=HPA.out (by omega)
      obtain ⟨by6,off7,rfl⟩:=HPB.out (by omega)
      have hji : (j : Int) < (xfs.length : Int):=by omega
      have hj0 : (0 : Int) ≤ (j : Int):=by omega
      have hj1 : (j : Int) ≤ 9223372036854775807:=by omega
      have hjl2 : j < yfs.length:=by have:=HFL.out;omega
      have hs:=HS10.out
      rw [List.drop_eq_getElem_cons hjl,List.drop_eq_getElem_cons hjl2] at hs
      have hmf : xfs[j] ∈ xfs:=List.getElem_mem hjl
      have hi3 : (fdDs xfs)[j]? = some (Tr.fdD xfs[j]):=by rw [Tr.fdDs_map];simp [hjl]
      have hi4 : (fdDs yfs)[j]? = some (Tr.fdD yfs[j]):=by rw [Tr.fdDs_map];simp [hjl2]
      generalize xfs[j] = x1 at hs hmf hi3
      generalize yfs[j] = y1 at hs hi4
      obtain ⟨gnm,gex,⟨gk,gm,gn,gls,gel,gba,gfs,gps,grs,gq⟩,gp⟩:=x1
      obtain ⟨lnm,lex,⟨lk,lm,ln,lls,lel,lba,lfs,lps,lrs,lq⟩,lp⟩:=y1
      have hszf : SizeOf.sizeOf [Tr.Ty.mk gk gm gn gls gel gba gfs gps grs gq] < SizeOf.sizeOf xs:=by
       have hsf:=List.sizeOf_lt_of_mem hmf
       simp only [Prod.mk.sizeOf_spec,List.cons.sizeOf_spec,List.nil.sizeOf_spec,Tr.Ty.mk.sizeOf_spec] at hsf ⊢
       omega
      unfold Tr.fdsS at hs
      simp only [Bool.and_eq_true,Bool.not_eq_true',bne_eq_false_iff_eq] at hs
      obtain ⟨⟨⟨⟨rfl,rfl⟩,-⟩,hsf0⟩,hsr⟩:=hs
      have hsf : Tr.tysS false [Tr.Ty.mk gk gm gn gls gel gba gfs gps grs gq] [Tr.Ty.mk lk lm ln lls lel lba lfs lps lrs lq] = true:=by
       unfold Tr.tysS;rw [hsf0];simp [Tr.tysS]
      replace HS10:=hid hsr
      unfold Tr.fdD at hi3 hi4
      simp only [tyD,List.cons_append,List.nil_append] at hi3 hi4
      obtain ⟨ca2,ra2,hra,hba2⟩:=HF.out.rowAt (m:=0) rfl j hi3
      obtain ⟨cb2,rb2,hrb,hbb2⟩:=HF.out.rowAt (m:=1) rfl j hi4
      obtain ⟨p0,p1,p2,p3,p4,p5,p6,p7,p8,p9,p10,p11,p12,rfl,hp0,hp1,hp2,hp3,hp4,hp5,hp6,hp7,hp8,hp9,hp10,hp11,hp12⟩:=Fr.row13 hra;clear hra
      obtain rfl:=is_str hp0
      obtain rfl:=is_str hp3
      obtain rfl:=is_str hp4
      obtain rfl:=Fr.is_bool hp1
      obtain rfl:=is_int hp2
      obtain rfl:=is_int hp11
      obtain rfl:=is_int hp12
      clear hp0 hp1 hp2 hp3 hp4 hp11 hp12
      obtain ⟨q0,q1,q2,q3,q4,q5,q6,q7,q8,q9,q10,q11,q12,rfl,hq0,hq1,hq2,hq3,hq4,hq5,hq6,hq7,hq8,hq9,hq10,hq11,hq12⟩:=Fr.row13 hrb;clear hrb
      obtain rfl:=is_str hq0
      obtain rfl:=is_str hq3
      obtain rfl:=is_str hq4
      obtain rfl:=Fr.is_bool hq1
      obtain rfl:=is_int hq2
      obtain rfl:=is_int hq11
      obtain rfl:=is_int hq12
      clear hq0 hq1 hq2 hq3 hq4 hq11 hq12
      replace HF:=hid ((((((((((((HF.out.plus hq10).plus hq9).plus hq8).plus hq7).plus hq6).plus hq5).plus hp10).plus hp9).plus hp8).plus hp7).plus hp6).plus hp5)
      have HB:=hid ((Below.refl wr.heap.size wr).drew)
      clear hsr hsf0 hmf hp5 hq5 hp6 hq6 hp7 hq7 hp8 hq8 hp9 hq9 hp10 hq10
      go_wp2
      go_cut [11,12] from 122 to 131 (fun v11 v12 wc => ∃ bc bd : Nat,v11 = .pointer (some ⟨bc,0,none⟩) ∧ v12 = .pointer (some ⟨bd,0,none⟩) ∧ RowKit.Hid (Fr.Fm w g Kp wc (.blk bd [.string ⟨gnm.toArray⟩,.bool gex,.int .i64 lk,.string ⟨lm.toArray⟩,.string ⟨ln.toArray⟩,q5,q6,q7,q8,q9,q10,.int .i64 lq,.int .i64 lp] :: .blk bc [.string ⟨gnm.toArray⟩,.bool gex,.int .i64 gk,.string ⟨gm.toArray⟩,.string ⟨gn.toArray⟩,p5,p6,p7,p8,p9,p10,.int .i64 gq,.int .i64 gp] :: .blk bb [.int .i64 xk,.string ⟨xm.toArray⟩,.string ⟨xn.toArray⟩,b3,b4,b5,(.slice (some ⟨by6,off7,none⟩) xfs.length b6c),b7,b8,.int .i64 yq] :: .blk ba [.int .i64 xk,.string ⟨xm.toArray⟩,.string ⟨xn.toArray⟩,a3,a4,a5,(.slice (some ⟨bx6,off6,none⟩) xfs.length a6c),a7,a8,.int .i64 xq] :: R) ((p5,Da.D.list 6 (exDs gls)) :: (p6,Da.D.list 10 (tyDs gel)) :: (p7,Da.D.list 10 (tyDs gba)) :: (p8,Da.D.list 13 (fdDs gfs)) :: (p9,Da.D.list 13 (fdDs gps)) :: (p10,Da.D.list 10 (tyDs grs)) :: (q5,Da.D.list 6 (exDs lls)) :: (q6,Da.D.list 10 (tyDs lel)) :: (q7,Da.D.list 10 (tyDs lba)) :: (q8,Da.D.list 13 (fdDs lfs)) :: (q9,Da.D.list 13 (fdDs lps)) :: (q10,Da.D.list 10 (tyDs lrs)) :: (.slice (some ⟨bx6,off6,none⟩) xfs.length a6c,Da.D.list 13 (fdDs xfs)) :: (.slice (some ⟨by6,off7,none⟩) xfs.length b6c,Da.D.list 13 (fdDs yfs)) :: Ds)))
      case first =>
       replace HF:=hid HF.out.drew
       refine wp_region_G (UpTo 13 (fun X => Below wr.heap.size wr X)) 14 (by kernel_rfl) (by kernel_rfl) (fun _ => HB.out) (fun _ hS => ?_)
       generalize World.drew _ = W1 at HF HB hS ⊢
       refine tkB (n:=14) (is:=[0,1,2,3,4,5,6,7,8,9]) [[0],[1],[2],[3],[4],[5],[6],[7],[8],[9]] (k:=10) rfl (by kernel_rfl) (fun d _ _ _ _ h => by cases d <;> exact h) hS ?_
       repeat (first | (refine wT (i:=1) (v:=.slice (some ⟨bx6,off6,none⟩) xfs.length a6c) rfl (by rfl) (fun X xb => ?_) ?_;(focus (have y:=(xb.cell (p:=⟨ba,6,none⟩) hlba).trans e6;clear xb;go_simp;try with_reducible rfl))) | (refine wT (i:=4) (v:=.agg #[.string ⟨gnm.toArray⟩,.bool gex,.int .i64 gk,.string ⟨gm.toArray⟩,.string ⟨gn.toArray⟩,p5,p6,p7,p8,p9,p10,.int .i64 gq,.int .i64 gp]) rfl (by rfl) (fun X xb => ?_) ?_;(focus (exact Fr.exec_row rfl rfl ra2 xb hba2 Tryz.underlying129 rfl tyF rfl))) | (refine wT (i:=6) (v:=.slice (some ⟨by6,off7,none⟩) xfs.length b6c) rfl (by rfl) (fun X xb => ?_) ?_;(focus (have y:=(xb.cell (p:=⟨bb,6,none⟩) hlbb).trans f6;clear xb;go_simp;try with_reducible rfl))) | (refine wT (i:=9) (v:=.agg #[.string ⟨gnm.toArray⟩,.bool gex,.int .i64 lk,.string ⟨lm.toArray⟩,.string ⟨ln.toArray⟩,q5,q6,q7,q8,q9,q10,.int .i64 lq,.int .i64 lp]) rfl (by rfl) (fun X xb => ?_) ?_;(focus (exact Fr.exec_row rfl rfl rb2 xb hbb2 Tryz.underlying129 rfl tyF rfl))) | (refine wT (v:=?_) rfl (by rfl) (fun X hX => ?_) ?_;rotate_left 1;(focus (clear hX;go_simp;try with_reducible rfl))));try simp only [Act.put,zA,z0,z1]
       refine wE fun hS => ?_
       refine wpAnyG_ready (rs:=[10,11]) (by kernel_rfl) (by simp) ?_
       refine AllReadyG.cons rfl (fun K hK => ?_) (AllReadyG.cons rfl (fun K hK => ?_) AllReadyG.nil)
       ·skip
        refine (if_pos (by rfl)).mpr ?_
        refine ow_allocB HF.out tyF rfl ?_
        intro bc W2 hn hb HF1
        have HNbc:=hid (Nat.le_trans HB.out.size hn);replace HB:=hid (HB.out.trans (hb.mono HB.out.size));replace HF:=hid HF1;clear hn hb HF1
        refine hK.out _ _ (fun _ => HB.out) fun hS => ?_;clear hK K
        try simp only [Act.put,zA,z0,z1]
        refine rd1 (i:=11) (by kernel_rfl) (.cons rfl (fun K hK => ?_) .nil)
        refine (if_pos (by rfl)).mpr ?_
        refine ow_allocB HF.out tyF rfl ?_
        intro bd W2 hn hb HF1
        have HNbd:=hid (Nat.le_trans HB.out.size hn);replace HB:=hid (HB.out.trans (hb.mono HB.out.size));replace HF:=hid HF1;clear hn hb HF1
        refine hK.out _ _ (fun _ => HB.out) fun hS => ?_;clear hK K
        try simp only [Act.put,zA,z0,z1]
        refine rd1 (i:=12) (by kernel_rfl) (.cons rfl (fun K hK => ?_) .nil)
        refine (if_pos (by rfl)).mpr ?_
        refine ow_storeB 1 HF.out tyF rfl rfl rfl rfl rfl rfl (z4 rfl) (by repeat' (first | exact z3 _ | refine z2 ?_ ?_ | rfl | (refine HF.out.oneM ?_;simp;done))) HB.out HNbc.out ?_
        intro W2 hb HF1
        replace HB:=hid hb;simp only [setL,z0,z1] at HF1;replace HF:=hid HF1;clear hb HF1
        refine hK.out _ _ (fun _ => HB.out) fun hS => ?_;clear hK K
        try simp only [Act.put,zA,z0,z1]
        refine rd1 (i:=13) (by kernel_rfl) (.cons rfl (fun K hK => ?_) .nil)
        refine (if_pos (by rfl)).mpr ?_
        refine ow_storeB 0 HF.out tyF rfl rfl rfl rfl rfl rfl (z4 rfl) (by repeat' (first | exact z3 _ | refine z2 ?_ ?_ | rfl | (refine HF.out.oneM ?_;simp;done))) HB.out HNbd.out ?_
        intro W2 hb HF1
        replace HB:=hid hb;simp only [setL,z0,z1] at HF1;replace HF:=hid HF1;clear hb HF1
        refine hK.out _ _ (fun h => absurd h (by simp [Fr.setAll])) fun hS => ?_;clear hK K
        try simp only [Act.put,zA,z0,z1]
        refine wpAnyG_done (by kernel_rfl) ?_ _;clear hS
        go_wp2
        go_meet
        case rel => exact ⟨_,_,rfl,rfl,HF⟩
       ·skip
        refine (if_pos (by rfl)).mpr ?_
        refine ow_allocB HF.out tyF rfl ?_
        intro bd W2 hn hb HF1
        have HNbd:=hid (Nat.le_trans HB.out.size hn);replace HB:=hid (HB.out.trans (hb.mono HB.out.size));replace HF:=hid HF1;clear hn hb HF1
        refine hK.out _ _ (fun _ => HB.out) fun hS => ?_;clear hK K
        try simp only [Act.put,zA,z0,z1]
        refine rd1 (i:=10) (by kernel_rfl) (.cons rfl (fun K hK => ?_) .nil)
        refine (if_pos (by rfl)).mpr ?_
        refine ow_allocB HF.out tyF rfl ?_
        intro bc W2 hn hb HF1
        have HNbc:=hid (Nat.le_trans HB.out.size hn);replace HB:=hid (HB.out.trans (hb.mono HB.out.size));replace HF:=hid HF1;clear hn hb HF1
        refine hK.out _ _ (fun _ => HB.out) fun hS => ?_;clear hK K
        try simp only [Act.put,zA,z0,z1]
        refine rd1 (i:=12) (by kernel_rfl) (.cons rfl (fun K hK => ?_) .nil)
        refine (if_pos (by rfl)).mpr ?_
        refine ow_storeB 0 HF.out tyF rfl rfl rfl rfl rfl rfl (z4 rfl) (by repeat' (first | exact z3 _ | refine z2 ?_ ?_ | rfl | (refine HF.out.oneM ?_;simp;done))) HB.out HNbc.out ?_
        intro W2 hb HF1
        replace HB:=hid hb;simp only [setL,z0,z1] at HF1;replace HF:=hid HF1;clear hb HF1
        refine hK.out _ _ (fun _ => HB.out) fun hS => ?_;clear hK K
        try simp only [Act.put,zA,z0,z1]
        refine rd1 (i:=13) (by kernel_rfl) (.cons rfl (fun K hK => ?_) .nil)
        refine (if_pos (by rfl)).mpr ?_
        refine ow_storeB 1 HF.out tyF rfl rfl rfl rfl rfl rfl (z4 rfl) (by repeat' (first | exact z3 _ | refine z2 ?_ ?_ | rfl | (refine HF.out.oneM ?_;simp;done))) HB.out HNbd.out ?_
        intro W2 hb HF1
        replace HB:=hid hb;simp only [setL,z0,z1] at HF1;replace HF:=hid HF1;clear hb HF1
        refine hK.out _ _ (fun h => absurd h (by simp [Fr.setAll])) fun hS => ?_;clear hK K
        try simp only [Act.put,zA,z0,z1]
        refine wpAnyG_done (by kernel_rfl) ?_ _;clear hS
        replace HF:=hid HF.out.flip
        go_wp2
        go_meet
        case rel => exact ⟨_,_,rfl,rfl,HF⟩
      case rest =>
       clear HF HB e6 f6
       obtain ⟨bc,bd,rfl,rfl,HF⟩:=hcut
       have e0:=HF.out.cellAt 1 rfl 0 rfl
       have f0:=HF.out.cellAt 0 rfl 0 rfl
       have e1:=HF.out.cellAt 1 rfl 1 rfl
       have f1:=HF.out.cellAt 0 rfl 1 rfl
       go_wp2_with (first
        | ((with_reducible refine Fr.is_loadW (T:=123) ?_);(refine Fr.wl_want (by rfl) ?_);(first | (refine Fr.wl_loadSub 1 HF.out rfl rfl (vs:=[.int .i64 gk,.string ⟨gm.toArray⟩,.string ⟨gn.toArray⟩,p5,p6,p7,p8,p9,p10,.int .i64 gq]) rfl Tryz.underlying123 rfl tyT rfl ?_) | (refine Fr.wl_loadSub 0 HF.out rfl rfl (vs:=[.int .i64 lk,.string ⟨lm.toArray⟩,.string ⟨ln.toArray⟩,q5,q6,q7,q8,q9,q10,.int .i64 lq]) rfl Tryz.underlying123 rfl tyT rfl ?_)))
        | (first | ((with_reducible refine Fr.is_litW ?_);(refine Fr.wl_want (by rfl) ?_);(refine Fr.wl_lit1 HF.out Tryz.underlying65 tyT (by simp) (by simp) rfl rfl rfl (tyD (Tr.Ty.mk gk gm gn gls gel gba gfs gps grs gq)) ?_ ?_);(focus (simp only [tyD];(repeat' (first | exact Da.row_nil _ _ | exact Da.Is.int _ | exact Da.Is.str _ | (refine HF.out.isM ?_;simp;done) | refine Da.row_cons ?_ ?_))));intro b W3 HF1;replace HF:=hid HF1;clear HF1) | ((with_reducible refine Fr.is_litW ?_);(refine Fr.wl_want (by rfl) ?_);(refine Fr.wl_lit1 HF.out Tryz.underlying65 tyT (by simp) (by simp) rfl rfl rfl (tyD (Tr.Ty.mk lk lm ln lls lel lba lfs lps lrs lq)) ?_ ?_);(focus (simp only [tyD];(repeat' (first | exact Da.row_nil _ _ | exact Da.Is.int _ | exact Da.Is.str _ | (refine HF.out.isM ?_;simp;done) | refine Da.row_cons ?_ ?_))));intro b W3 HF1;replace HF:=hid HF1;clear HF1))
        | (go_at_call 25;(with_reducible refine (HR.out [Tr.Ty.mk gk gm gn gls gel gba gfs gps grs gq] hszf [Tr.Ty.mk lk lm ln lls lel lba lfs lps lrs lq] false 1 0 _ _ rfl rfl hsf (by simp) HF.out).mono ?_);rintro e W3 ⟨rfl,HF1⟩;replace HF:=hid HF1;clear HF1))
       go_roundg (xfs.length - (j + 1))
       case rel => exact ⟨j + 1,rfl,hjl,by simp,HS10,hid HF.out.lessR.lessR.less.less.less.less.less.less.less.less.less.less.less.less.less.less⟩
       case measure => omega
     ·have hji : ¬ (j : Int) < (xfs.length : Int):=by omega
      go_wp2
      go_roundg (xs.length - (k + 1))
      case rel => exact ⟨k + 1,rfl,hlt,by simp,HS,hid HF.out.lessR.lessR.less.less⟩
      case measure => have:=HG.out;omega
  ·have hki : ¬ (k : Int) < (xs.length : Int):=by omega
   go_wp2
   refine bodyPost_ret (v:=.bool true) (by simp [results,Tryz.results25,go_sem];try rfl) rfl ⟨rfl,HF.out⟩
theorem rtypes_all : ∀ xs : List Tr.Ty,RsTy xs:=by
 have key : ∀ (n : Nat) (xs : List Tr.Ty),SizeOf.sizeOf xs < n → RsTy xs:=by
  intro n
  induction n with
  | zero => intro xs h;omega
  | succ n ih => intro xs h;exact rtypes_step xs (fun us ha => ih us (by omega))
 exact fun xs => key _ xs (Nat.lt_succ_self _)
theorem rparams_all : ∀ xs : List (List UInt8 × Bool × Tr.Ty × Int),RsPa xs:=fun xs => rparams_step xs (fun _ _ => rtypes_all _)
end Go.Proofs.YtlhmkfcbldghfaaGreatDoor
