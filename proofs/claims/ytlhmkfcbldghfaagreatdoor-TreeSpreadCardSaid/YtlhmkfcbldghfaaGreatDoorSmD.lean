/- The walk of the document's sameParams at what is alike,where SameTypes answers as it should. Conditions: the lists are told. -/
import Derived.Test.YtlhmkfcbldghfaaGreatDoorSmC
namespace Go.Proofs.YtlhmkfcbldghfaaGreatDoor
set_option linter.all false
open Go.Lib (hid)
set_option maxRecDepth 1000000
set_option maxHeartbeats 16000000
open Go.RowKit
open Fr (tkB tkM wT wN wE)
open Fr (is_int is_str setL tyPa tyT)
open Tr (fdDs tyD tyDs)
namespace Fr
open Da Tr
section
variable {P : Program} {ops : Array Oper} {rest : List Oper} {Q : Exit → Act → World → Prop} {a : Act} {W : World} {dst : Option Tmp} {ty : TypeId} {pos : String} {after : Array Edge} {gd : Nat × Bool}
theorem is_loadW {T : TypeId} {x : Operand} (h : wpList P ops Q ({ dst:=dst,op:=.load T x,type:=ty,pos:=pos,after:=after,guard:=some gd } :: rest) a W) : wpList P ops Q ({ dst:=dst,op:=.load T x,type:=ty,pos:=pos,after:=after,guard:=some gd } :: rest) a W:=h
theorem is_litW {T : TypeId} {n : Nat} {ps : Array (Nat × Operand)} (h : wpList P ops Q ({ dst:=dst,op:=.buildSlice T n ps,type:=ty,pos:=pos,after:=after,guard:=some gd } :: rest) a W) : wpList P ops Q ({ dst:=dst,op:=.buildSlice T n ps,type:=ty,pos:=pos,after:=after,guard:=some gd } :: rest) a W:=h
end
end Fr
abbrev RsTy (xs : List Tr.Ty) : Prop:=∀ {w W : World} {g : Option Nat} {Kp : World → Prop} {R : List Fr.RI} {Ds : List (Value × Da.D)} (ys : List Tr.Ty) (pl : Bool) (m n : Nat) (v u : Value) (_ : Ds[m]? = some (v,Da.D.list 10 (tyDs xs))) (_ : Ds[n]? = some (u,Da.D.list 10 (tyDs ys))) (_ : Tr.tysS pl xs ys = true) (_ : pl = true → xs = []) (_ : Fr.Fm w g Kp W R Ds),
  Calls Tryz.prog 25 #[v,u,.bool pl] W fun e W' => e = .returned (.bool true) ∧ Fr.Fm w g Kp W' R Ds
abbrev RsPa (xs : List (List UInt8 × Bool × Tr.Ty × Int)) : Prop:=∀ {w W : World} {g : Option Nat} {Kp : World → Prop} {R : List Fr.RI} {Ds : List (Value × Da.D)} (ys : List (List UInt8 × Bool × Tr.Ty × Int)) (pl : Bool) (m n : Nat) (v u : Value) (_ : Ds[m]? = some (v,Da.D.list 13 (fdDs xs))) (_ : Ds[n]? = some (u,Da.D.list 13 (fdDs ys))) (_ : Tr.fdsS pl xs ys = true) (_ : pl = true → xs = []) (_ : Fr.Fm w g Kp W R Ds),
  Calls Tryz.prog 24 #[v,u,.bool pl] W fun e W' => e = .returned (.bool true) ∧ Fr.Fm w g Kp W' R Ds
theorem rparams_step (xs : List (List UInt8 × Bool × Tr.Ty × Int)) (hT : ∀ f ∈ xs,RsTy [f.2.2.1]) : RsPa xs:=by
 intro w W g Kp R Ds ys pl m n v u hd hu hs hp h
 have hlen : xs.length = ys.length:=by
  by_cases he : xs.length = ys.length
  ·exact he
  ·rw [Tr.fdsS_len he] at hs;cases hs
 obtain ⟨p,c,rfl,hl,hpp⟩:=h.daSlice hd
 obtain ⟨p2,c2,rfl,hl2,hpp2⟩:=h.daSlice hu
 rw [Fr.fdDs_len'] at hl hpp hd hl2 hpp2 hu ⊢
 rw [Fr.fdDs_len',← hlen]
 rw [← hlen] at hl2 hpp2 hu
 have HF:=hid h
 have HD:=hid hd
 have HU:=hid hu
 have HP:=hid hpp
 have HP2:=hid hpp2
 have HT : RowKit.Hid (∀ f ∈ xs,RsTy [f.2.2.1]):=hid hT
 have HS:=hid hs
 have HPL:=hid hp
 have HLN:=hid hlen
 have hl3 : (xs.length : Int) ≤ 9223372036854775807:=by omega
 clear h hd hu hpp hpp2 hs hp hlen hl2 hT
 go_enter Tryz.func24,Tryz.ntmps24
 go_wp2
 go_loopg [7] xs.length (fun gm v7 wr => ∃ k : Nat,gm = xs.length - k ∧ k ≤ xs.length ∧ v7 = .int .i64 k ∧ RowKit.Hid (Tr.fdsS pl (xs.drop k) (ys.drop k) = true) ∧ RowKit.Hid (Fr.Fm w g Kp wr R Ds))
 case atStart => exact ⟨0,by simp,by omega,rfl,HS,HF⟩
 case round =>
  clear HF HS
  obtain ⟨k,hg,hk,rfl,HS,HF⟩:=hrel
  by_cases hlt : k < xs.length
  ·obtain ⟨b,off,rfl⟩:=HP.out (by omega)
   obtain ⟨b2,off2,rfl⟩:=HP2.out (by omega)
   have hki : (k : Int) < (xs.length : Int):=by omega
   have hk0 : (0 : Int) ≤ (k : Int):=by omega
   have hk1 : (k : Int) ≤ 9223372036854775807:=by omega
   have hlt2 : k < ys.length:=by have:=HLN.out;omega
   obtain rfl : pl = false:=by
    cases pl with
    | false => rfl
    | true => have:=HPL.out rfl;rw [this] at hlt;simp at hlt
   have hs:=HS.out
   rw [List.drop_eq_getElem_cons hlt,List.drop_eq_getElem_cons hlt2] at hs
   have hmem : xs[k] ∈ xs:=List.getElem_mem hlt
   have hi : (fdDs xs)[k]? = some (Tr.fdD xs[k]):=by rw [Tr.fdDs_map];simp [hlt]
   have hi2 : (fdDs ys)[k]? = some (Tr.fdD ys[k]):=by rw [Tr.fdDs_map];simp [hlt2]
   generalize xs[k] = x0 at hs hmem hi
   generalize ys[k] = y0 at hs hi2
   obtain ⟨xnm,xex,⟨xk,xm,xn,xls,xel,xba,xfs,xps,xrs,xq⟩,xp⟩:=x0
   obtain ⟨ynm,yex,⟨yk,ym,yn,yls,yel,yba,yfs,yps,yrs,yq⟩,yp⟩:=y0
   unfold Tr.fdsS at hs
   simp only [Bool.and_eq_true,Bool.not_eq_true',bne_eq_false_iff_eq] at hs
   obtain ⟨⟨⟨⟨rfl,rfl⟩,-⟩,hs3⟩,hs7⟩:=hs
   have hs4 : Tr.tysS false [Tr.Ty.mk xk xm xn xls xel xba xfs xps xrs xq] [Tr.Ty.mk yk ym yn yls yel yba yfs yps yrs yq] = true:=by
    unfold Tr.tysS;rw [hs3];simp [Tr.tysS]
   replace HS:=hid hs7
   unfold Tr.fdD at hi hi2
   simp only [tyD,List.cons_append,List.nil_append] at hi hi2
   obtain ⟨ca,ra,hra,hba⟩:=HF.out.rowAt HD.out k hi
   obtain ⟨cb,rb,hrb,hbb⟩:=HF.out.rowAt HU.out k hi2
   obtain ⟨a0,a1,a2,a3,a4,a5,a6,a7,a8,a9,a10,a11,a12,rfl,ha0,ha1,ha2,ha3,ha4,ha5,ha6,ha7,ha8,ha9,ha10,ha11,ha12⟩:=Fr.row13 hra;clear hra
   obtain rfl:=is_str ha0
   obtain rfl:=is_str ha3
   obtain rfl:=is_str ha4
   obtain rfl:=Fr.is_bool ha1
   obtain rfl:=is_int ha2
   obtain rfl:=is_int ha11
   obtain rfl:=is_int ha12
   clear ha0 ha1 ha2 ha3 ha4 ha11 ha12
   obtain ⟨b0,b1,b2,b3,b4,b5,b6,b7,b8,b9,b10,b11,b12,rfl,hb0,hb1,hb2,hb3,hb4,hb5,hb6,hb7,hb8,hb9,hb10,hb11,hb12⟩:=Fr.row13 hrb;clear hrb
   obtain rfl:=is_str hb0
   obtain rfl:=is_str hb3
   obtain rfl:=is_str hb4
   obtain rfl:=Fr.is_bool hb1
   obtain rfl:=is_int hb2
   obtain rfl:=is_int hb11
   obtain rfl:=is_int hb12
   clear hb0 hb1 hb2 hb3 hb4 hb11 hb12
   replace HF:=hid ((((((((((((HF.out.plus hb10).plus hb9).plus hb8).plus hb7).plus hb6).plus hb5).plus ha10).plus ha9).plus ha8).plus ha7).plus ha6).plus ha5)
   have HB:=hid ((Below.refl wr.heap.size wr).drew)
   clear hs7 hs3 ha5 hb5 ha6 hb6 ha7 hb7 ha8 hb8 ha9 hb9 ha10 hb10
   go_wp2
   go_cut [8,9] from 21 to 28 (fun v8 v9 wc => ∃ ba bb : Nat,v8 = .pointer (some ⟨ba,0,none⟩) ∧ v9 = .pointer (some ⟨bb,0,none⟩) ∧ RowKit.Hid (Fr.Fm w g Kp wc (.blk bb [.string ⟨xnm.toArray⟩,.bool xex,.int .i64 yk,.string ⟨ym.toArray⟩,.string ⟨yn.toArray⟩,b5,b6,b7,b8,b9,b10,.int .i64 yq,.int .i64 yp] :: .blk ba [.string ⟨xnm.toArray⟩,.bool xex,.int .i64 xk,.string ⟨xm.toArray⟩,.string ⟨xn.toArray⟩,a5,a6,a7,a8,a9,a10,.int .i64 xq,.int .i64 xp] :: R) ((a5,Da.D.list 6 (Tr.exDs xls)) :: (a6,Da.D.list 10 (tyDs xel)) :: (a7,Da.D.list 10 (tyDs xba)) :: (a8,Da.D.list 13 (fdDs xfs)) :: (a9,Da.D.list 13 (fdDs xps)) :: (a10,Da.D.list 10 (tyDs xrs)) :: (b5,Da.D.list 6 (Tr.exDs yls)) :: (b6,Da.D.list 10 (tyDs yel)) :: (b7,Da.D.list 10 (tyDs yba)) :: (b8,Da.D.list 13 (fdDs yfs)) :: (b9,Da.D.list 13 (fdDs yps)) :: (b10,Da.D.list 10 (tyDs yrs)) :: Ds)))
   case first =>
    replace HF:=hid HF.out.drew
    refine wp_region_G (UpTo 11 (fun X => Below wr.heap.size wr X)) 12 (by kernel_rfl) (by kernel_rfl) (fun _ => HB.out) (fun _ hS => ?_)
    generalize World.drew _ = W1 at HF HB hS ⊢
    refine tkB (n:=12) (is:=[0,1,2,3,4,5,6,7]) [[0],[1],[2],[3],[4],[5],[6],[7]] (k:=8) rfl (by kernel_rfl) (fun d _ _ _ _ h => by cases d <;> exact h) hS ?_
    repeat (first | (refine wT (i:=3) (v:=.agg #[.string ⟨xnm.toArray⟩,.bool xex,.int .i64 xk,.string ⟨xm.toArray⟩,.string ⟨xn.toArray⟩,a5,a6,a7,a8,a9,a10,.int .i64 xq,.int .i64 xp]) rfl (by rfl) (fun X xb => ?_) ?_;(focus (exact Fr.exec_row rfl rfl ra xb hba Tryz.underlying128 rfl tyPa rfl))) | (refine wT (i:=7) (v:=.agg #[.string ⟨xnm.toArray⟩,.bool xex,.int .i64 yk,.string ⟨ym.toArray⟩,.string ⟨yn.toArray⟩,b5,b6,b7,b8,b9,b10,.int .i64 yq,.int .i64 yp]) rfl (by rfl) (fun X xb => ?_) ?_;(focus (exact Fr.exec_row rfl rfl rb xb hbb Tryz.underlying128 rfl tyPa rfl))) | (refine wT (v:=?_) rfl (by rfl) (fun X hX => ?_) ?_;rotate_left 1;(focus (clear hX;go_simp;try with_reducible rfl))));try simp only [Act.put,zA,z0,z1]
    refine wE fun hS => ?_
    refine wpAnyG_ready (rs:=[8,9]) (by kernel_rfl) (by simp) ?_
    refine AllReadyG.cons rfl (fun K hK => ?_) (AllReadyG.cons rfl (fun K hK => ?_) AllReadyG.nil)
    ·skip
     refine (if_pos (by rfl)).mpr ?_
     refine Fr.ow_allocB HF.out tyPa rfl ?_
     intro ba W2 hn hb HF1
     have HNba:=hid (Nat.le_trans HB.out.size hn);replace HB:=hid (HB.out.trans (hb.mono HB.out.size));replace HF:=hid HF1;clear hn hb HF1
     refine hK.out _ _ (fun _ => HB.out) fun hS => ?_;clear hK K
     try simp only [Act.put,zA,z0,z1]
     refine rd1 (i:=9) (by kernel_rfl) (.cons rfl (fun K hK => ?_) .nil)
     refine (if_pos (by rfl)).mpr ?_
     refine Fr.ow_allocB HF.out tyPa rfl ?_
     intro bb W2 hn hb HF1
     have HNbb:=hid (Nat.le_trans HB.out.size hn);replace HB:=hid (HB.out.trans (hb.mono HB.out.size));replace HF:=hid HF1;clear hn hb HF1
     refine hK.out _ _ (fun _ => HB.out) fun hS => ?_;clear hK K
     try simp only [Act.put,zA,z0,z1]
     refine rd1 (i:=10) (by kernel_rfl) (.cons rfl (fun K hK => ?_) .nil)
     refine (if_pos (by rfl)).mpr ?_
     refine Fr.ow_storeB 1 HF.out tyPa rfl rfl rfl rfl rfl rfl (z4 rfl) (by repeat' (first | exact z3 _ | refine z2 ?_ ?_ | rfl | (refine HF.out.oneM ?_;simp;done))) HB.out HNba.out ?_
     intro W2 hb HF1
     replace HB:=hid hb;simp only [setL,z0,z1] at HF1;replace HF:=hid HF1;clear hb HF1
     refine hK.out _ _ (fun _ => HB.out) fun hS => ?_;clear hK K
     try simp only [Act.put,zA,z0,z1]
     refine rd1 (i:=11) (by kernel_rfl) (.cons rfl (fun K hK => ?_) .nil)
     refine (if_pos (by rfl)).mpr ?_
     refine Fr.ow_storeB 0 HF.out tyPa rfl rfl rfl rfl rfl rfl (z4 rfl) (by repeat' (first | exact z3 _ | refine z2 ?_ ?_ | rfl | (refine HF.out.oneM ?_;simp;done))) HB.out HNbb.out ?_
     intro W2 hb HF1
     replace HB:=hid hb;simp only [setL,z0,z1] at HF1;replace HF:=hid HF1;clear hb HF1
     refine hK.out _ _ (fun h => absurd h (by simp [Fr.setAll])) fun hS => ?_;clear hK K
     try simp only [Act.put,zA,z0,z1]
     refine wpAnyG_done (by kernel_rfl) ?_ _;clear hS
     go_wp2
     go_meet
     case rel => exact ⟨_,_,rfl,rfl,HF⟩
    ·skip
     refine (if_pos (by rfl)).mpr ?_
     refine Fr.ow_allocB HF.out tyPa rfl ?_
     intro bb W2 hn hb HF1
     have HNbb:=hid (Nat.le_trans HB.out.size hn);replace HB:=hid (HB.out.trans (hb.mono HB.out.size));replace HF:=hid HF1;clear hn hb HF1
     refine hK.out _ _ (fun _ => HB.out) fun hS => ?_;clear hK K
     try simp only [Act.put,zA,z0,z1]
     refine rd1 (i:=8) (by kernel_rfl) (.cons rfl (fun K hK => ?_) .nil)
     refine (if_pos (by rfl)).mpr ?_
     refine Fr.ow_allocB HF.out tyPa rfl ?_
     intro ba W2 hn hb HF1
     have HNba:=hid (Nat.le_trans HB.out.size hn);replace HB:=hid (HB.out.trans (hb.mono HB.out.size));replace HF:=hid HF1;clear hn hb HF1
     refine hK.out _ _ (fun _ => HB.out) fun hS => ?_;clear hK K
     try simp only [Act.put,zA,z0,z1]
     refine rd1 (i:=10) (by kernel_rfl) (.cons rfl (fun K hK => ?_) .nil)
     refine (if_pos (by rfl)).mpr ?_
     refine Fr.ow_storeB 0 HF.out tyPa rfl rfl rfl rfl rfl rfl (z4 rfl) (by repeat' (first | exact z3 _ | refine z2 ?_ ?_ | rfl | (refine HF.out.oneM ?_;simp;done))) HB.out HNba.out ?_
     intro W2 hb HF1
     replace HB:=hid hb;simp only [setL,z0,z1] at HF1;replace HF:=hid HF1;clear hb HF1
     refine hK.out _ _ (fun _ => HB.out) fun hS => ?_;clear hK K
     try simp only [Act.put,zA,z0,z1]
     refine rd1 (i:=11) (by kernel_rfl) (.cons rfl (fun K hK => ?_) .nil)
     refine (if_pos (by rfl)).mpr ?_
     refine Fr.ow_storeB 1 HF.out tyPa rfl rfl rfl rfl rfl rfl (z4 rfl) (by repeat' (first | exact z3 _ | refine z2 ?_ ?_ | rfl | (refine HF.out.oneM ?_;simp;done))) HB.out HNbb.out ?_
     intro W2 hb HF1
     replace HB:=hid hb;simp only [setL,z0,z1] at HF1;replace HF:=hid HF1;clear hb HF1
     refine hK.out _ _ (fun h => absurd h (by simp [Fr.setAll])) fun hS => ?_;clear hK K
     try simp only [Act.put,zA,z0,z1]
     refine wpAnyG_done (by kernel_rfl) ?_ _;clear hS
     replace HF:=hid HF.out.flip
     go_wp2
     go_meet
     case rel => exact ⟨_,_,rfl,rfl,HF⟩
   case rest =>
    clear HF HB
    obtain ⟨ba,bb,rfl,rfl,HF⟩:=hcut
    have e0:=HF.out.cellAt 1 rfl 0 rfl
    have f0:=HF.out.cellAt 0 rfl 0 rfl
    have e1:=HF.out.cellAt 1 rfl 1 rfl
    have f1:=HF.out.cellAt 0 rfl 1 rfl
    have e12:=HF.out.cellAt 1 rfl 12 rfl
    have f12:=HF.out.cellAt 0 rfl 12 rfl
    go_wp2_with (first
     | ((with_reducible refine Fr.is_loadW (T:=123) ?_);(refine Fr.wl_want (by rfl) ?_);(first | (refine Fr.wl_loadSub 1 HF.out rfl rfl (vs:=[.int .i64 xk,.string ⟨xm.toArray⟩,.string ⟨xn.toArray⟩,a5,a6,a7,a8,a9,a10,.int .i64 xq]) rfl Tryz.underlying123 rfl tyT rfl ?_) | (refine Fr.wl_loadSub 0 HF.out rfl rfl (vs:=[.int .i64 yk,.string ⟨ym.toArray⟩,.string ⟨yn.toArray⟩,b5,b6,b7,b8,b9,b10,.int .i64 yq]) rfl Tryz.underlying123 rfl tyT rfl ?_)))
     | (first | ((with_reducible refine Fr.is_litW ?_);(refine Fr.wl_want (by rfl) ?_);(refine Fr.wl_lit1 HF.out Tryz.underlying65 tyT (by simp) (by simp) rfl rfl rfl (tyD (Tr.Ty.mk xk xm xn xls xel xba xfs xps xrs xq)) ?_ ?_);(focus (simp only [tyD];(repeat' (first | exact Da.row_nil _ _ | exact Da.Is.int _ | exact Da.Is.str _ | (refine HF.out.isM ?_;simp;done) | refine Da.row_cons ?_ ?_))));intro b W3 HF1;replace HF:=hid HF1;clear HF1) | ((with_reducible refine Fr.is_litW ?_);(refine Fr.wl_want (by rfl) ?_);(refine Fr.wl_lit1 HF.out Tryz.underlying65 tyT (by simp) (by simp) rfl rfl rfl (tyD (Tr.Ty.mk yk ym yn yls yel yba yfs yps yrs yq)) ?_ ?_);(focus (simp only [tyD];(repeat' (first | exact Da.row_nil _ _ | exact Da.Is.int _ | exact Da.Is.str _ | (refine HF.out.isM ?_;simp;done) | refine Da.row_cons ?_ ?_))));intro b W3 HF1;replace HF:=hid HF1;clear HF1))
     | (go_at_call 25;(with_reducible refine (HT.out _ hmem [Tr.Ty.mk yk ym yn yls yel yba yfs yps yrs yq] false 1 0 _ _ rfl rfl hs4 (by simp) HF.out).mono ?_);rintro e W3 ⟨rfl,HF1⟩;replace HF:=hid HF1;clear HF1))
    go_roundg (xs.length - (k + 1))
    case rel => exact ⟨k + 1,rfl,hlt,by simp,HS,hid HF.out.lessR.lessR.less.less.less.less.less.less.less.less.less.less.less.less.less.less⟩
    case measure => omega
  ·have hki : ¬ (k : Int) < (xs.length : Int):=by omega
   go_wp2
   refine bodyPost_ret (v:=.bool true) (by simp [results,Tryz.results24,go_sem];try rfl) rfl ⟨rfl,HF.out⟩
end Go.Proofs.YtlhmkfcbldghfaaGreatDoor
