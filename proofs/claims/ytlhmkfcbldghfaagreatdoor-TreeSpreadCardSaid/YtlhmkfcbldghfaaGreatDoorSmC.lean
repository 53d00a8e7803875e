/- The walk of the document's SameExprs at expressions that are alike. Conditions: the lists are told;places are asked of empty lists alone. -/
import Derived.Test.YtlhmkfcbldghfaaGreatDoorSmB
namespace Go.Proofs.YtlhmkfcbldghfaaGreatDoor
set_option linter.all false
open Go.Lib (hid)
set_option maxRecDepth 1000000
set_option maxHeartbeats 16000000
open Go.RowKit
open Fr (tkB tkM wT wN wE)
open Fr (is_int setL tyE)
open Tr (exDs)
abbrev RsEx (xs : List Tr.Ex) : Prop:=∀ {w W : World} {g : Option Nat} {Kp : World → Prop} {R : List Fr.RI} {Ds : List (Value × Da.D)} (ys : List Tr.Ex) (pl : Bool) (m n : Nat) (v u : Value) (_ : Ds[m]? = some (v,Da.D.list 6 (exDs xs))) (_ : Ds[n]? = some (u,Da.D.list 6 (exDs ys))) (_ : Tr.exsS pl xs ys = true) (_ : pl = true → xs = []) (_ : Fr.Fm w g Kp W R Ds),
  Calls Tryz.prog 26 #[v,u,.bool pl] W fun e W' => e = .returned (.bool true) ∧ Fr.Fm w g Kp W' R Ds
theorem rexprs_step (xs : List Tr.Ex) (ih : ∀ us : List Tr.Ex,SizeOf.sizeOf us < SizeOf.sizeOf xs → RsEx us) : RsEx xs:=by
 intro w W g Kp R Ds ys pl m n v u hd hu hs hp h
 have hlen : xs.length = ys.length:=by
  by_cases he : xs.length = ys.length
  ·exact he
  ·rw [Tr.exsS_len he] at hs;cases hs
 obtain ⟨p,c,rfl,hl,hpp⟩:=h.daSlice hd
 obtain ⟨p2,c2,rfl,hl2,hpp2⟩:=h.daSlice hu
 rw [Fr.exDs_len'] at hl hpp hd hl2 hpp2 hu ⊢
 rw [Fr.exDs_len',← hlen]
 rw [← hlen] at hl2 hpp2 hu
 have HF:=hid h
 have HD:=hid hd
 have HU:=hid hu
 have HP:=hid hpp
 have HP2:=hid hpp2
 have HR:=hid ih
 have HS:=hid hs
 have HPL:=hid hp
 have HLN:=hid hlen
 have hl3 : (xs.length : Int) ≤ 9223372036854775807:=by omega
 clear h hd hu hpp hpp2 ih hs hp hlen hl2
 go_enter Tryz.func26,Tryz.ntmps26
 go_wp2
 go_loopg [7] xs.length (fun gm v7 wr => ∃ k : Nat,gm = xs.length - k ∧ k ≤ xs.length ∧ v7 = .int .i64 k ∧ RowKit.Hid (Tr.exsS pl (xs.drop k) (ys.drop k) = true) ∧ RowKit.Hid (Fr.Fm w g Kp wr R Ds))
 case atStart => exact ⟨0,by simp,by omega,rfl,HS,HF⟩
 case round =>
  clear HF HS
  obtain ⟨k,hg,hk,rfl,HS,HF⟩:=hrel
  by_cases hlt : k < xs.length
  ·obtain ⟨b,off,rfl⟩:=HP.out (by omega)
   obtain ⟨b2,off2,rfl⟩:=HP2.out (by omega)
   have hki : (k : Int) < (xs.length : Int):=by omega
   have hk0 : (0 : Int) ≤ (k : Int):=by omega
   have hk1 : (k : Int) ≤ 9223372036854775807:=by omega
   have hlt2 : k < ys.length:=by have:=HLN.out;omega
   obtain rfl : pl = false:=by
    cases pl with
    | false => rfl
    | true => have:=HPL.out rfl;rw [this] at hlt;simp at hlt
   have hs:=HS.out
   rw [List.drop_eq_getElem_cons hlt,List.drop_eq_getElem_cons hlt2] at hs
   have hmem : xs[k] ∈ xs:=List.getElem_mem hlt
   have hi : (exDs xs)[k]? = some (Tr.exD xs[k]):=by rw [Tr.exDs_map];simp [hlt]
   have hi2 : (exDs ys)[k]? = some (Tr.exD ys[k]):=by rw [Tr.exDs_map];simp [hlt2]
   generalize xs[k] = x0 at hs hmem hi
   generalize ys[k] = y0 at hs hi2
   obtain ⟨xk,xn,xt,xo,xa,xp⟩:=x0
   obtain ⟨yk,yn,yt,yo,ya,yp⟩:=y0
   have hsz : SizeOf.sizeOf xa < SizeOf.sizeOf xs:=by
    have h1:=List.sizeOf_lt_of_mem hmem
    simp only [Tr.Ex.mk.sizeOf_spec] at h1
    omega
   unfold Tr.exsS Tr.exS at hs
   simp only [Bool.and_eq_true,Bool.not_eq_true',bne_eq_false_iff_eq] at hs
   obtain ⟨⟨⟨⟨⟨⟨rfl,rfl⟩,rfl⟩,rfl⟩,-⟩,hs6⟩,hs7⟩:=hs
   replace HS:=hid hs7
   unfold Tr.exD at hi hi2
   obtain ⟨ca,ra,hra,hba⟩:=HF.out.rowAt HD.out k hi
   obtain ⟨cb,rb,hrb,hbb⟩:=HF.out.rowAt HU.out k hi2
   obtain ⟨a0,a1,a2,a3,a4,a5,rfl,ha0,ha1,ha2,ha3,ha4,ha5⟩:=Fr.row6 hra;clear hra
   obtain rfl:=Fr.is_str ha2
   obtain rfl:=Fr.is_str ha3
   obtain rfl:=is_int ha0
   obtain rfl:=is_int ha1
   obtain rfl:=is_int ha5
   clear ha0 ha1 ha2 ha3 ha5
   obtain ⟨b0,b1,b2,b3,b4,b5,rfl,hb0,hb1,hb2,hb3,hb4,hb5⟩:=Fr.row6 hrb;clear hrb
   obtain rfl:=Fr.is_str hb2
   obtain rfl:=Fr.is_str hb3
   obtain rfl:=is_int hb0
   obtain rfl:=is_int hb1
   obtain rfl:=is_int hb5
   clear hb0 hb1 hb2 hb3 hb5
   replace HF:=hid ((HF.out.plus hb4).plus ha4)
   have HB:=hid ((Below.refl wr.heap.size wr).drew)
   clear hs7 hmem ha4 hb4
   go_wp2
   go_cut [8,9] from 21 to 28 (fun v8 v9 wc => ∃ ba bb : Nat,v8 = .pointer (some ⟨ba,0,none⟩) ∧ v9 = .pointer (some ⟨bb,0,none⟩) ∧ RowKit.Hid (Fr.Fm w g Kp wc (.blk bb [.int .i64 xk,.int .i64 xn,.string ⟨xt.toArray⟩,.string ⟨xo.toArray⟩,b4,.int .i64 yp] :: .blk ba [.int .i64 xk,.int .i64 xn,.string ⟨xt.toArray⟩,.string ⟨xo.toArray⟩,a4,.int .i64 xp] :: R) ((a4,Da.D.list 6 (exDs xa)) :: (b4,Da.D.list 6 (exDs ya)) :: Ds)))
   case first =>
    replace HF:=hid HF.out.drew
    refine wp_region_G (UpTo 11 (fun X => Below wr.heap.size wr X)) 12 (by kernel_rfl) (by kernel_rfl) (fun _ => HB.out) (fun _ hS => ?_)
    generalize World.drew _ = W1 at HF HB hS ⊢
    refine tkB (n:=12) (is:=[0,1,2,3,4,5,6,7]) [[0],[1],[2],[3],[4],[5],[6],[7]] (k:=8) rfl (by kernel_rfl) (fun d _ _ _ _ h => by cases d <;> exact h) hS ?_
    repeat (first | (refine wT (i:=3) (v:=.agg #[.int .i64 xk,.int .i64 xn,.string ⟨xt.toArray⟩,.string ⟨xo.toArray⟩,a4,.int .i64 xp]) rfl (by rfl) (fun X xb => ?_) ?_;(focus (exact Fr.exec_row rfl rfl ra xb hba Tryz.underlying53 rfl tyE rfl))) | (refine wT (i:=7) (v:=.agg #[.int .i64 xk,.int .i64 xn,.string ⟨xt.toArray⟩,.string ⟨xo.toArray⟩,b4,.int .i64 yp]) rfl (by rfl) (fun X xb => ?_) ?_;(focus (exact Fr.exec_row rfl rfl rb xb hbb Tryz.underlying53 rfl tyE rfl))) | (refine wT (v:=?_) rfl (by rfl) (fun X hX => ?_) ?_;rotate_left 1;(focus (clear hX;go_simp;try with_reducible rfl))));try simp only [Act.put,zA,z0,z1]
    refine wE fun hS => ?_
    refine wpAnyG_ready (rs:=[8,9]) (by kernel_rfl) (by simp) ?_
    refine AllReadyG.cons rfl (fun K hK => ?_) (AllReadyG.cons rfl (fun K hK => ?_) AllReadyG.nil)
    ·skip
     refine (if_pos (by rfl)).mpr ?_
     refine Fr.ow_allocB HF.out tyE rfl ?_
     intro ba W2 hn hb HF1
     have HNba:=hid (Nat.le_trans HB.out.size hn);replace HB:=hid (HB.out.trans (hb.mono HB.out.size));replace HF:=hid HF1;clear hn hb HF1
     refine hK.out _ _ (fun _ => HB.out) fun hS => ?_;clear hK K
     try simp only [Act.put,zA,z0,z1]
     refine rd1 (i:=9) (by kernel_rfl) (.cons rfl (fun K hK => ?_) .nil)
     refine (if_pos (by rfl)).mpr ?_
     refine Fr.ow_allocB HF.out tyE rfl ?_
     intro bb W2 hn hb HF1
     have HNbb:=hid (Nat.le_trans HB.out.size hn);replace HB:=hid (HB.out.trans (hb.mono HB.out.size));replace HF:=hid HF1;clear hn hb HF1
     refine hK.out _ _ (fun _ => HB.out) fun hS => ?_;clear hK K
     try simp only [Act.put,zA,z0,z1]
     refine rd1 (i:=10) (by kernel_rfl) (.cons rfl (fun K hK => ?_) .nil)
     refine (if_pos (by rfl)).mpr ?_
     refine Fr.ow_storeB 1 HF.out tyE rfl rfl rfl rfl rfl rfl (z4 rfl) (by repeat' (first | exact z3 _ | refine z2 ?_ ?_ | rfl | (refine HF.out.oneM ?_;simp;done))) HB.out HNba.out ?_
     intro W2 hb HF1
     replace HB:=hid hb;simp only [setL,z0,z1] at HF1;replace HF:=hid HF1;clear hb HF1
     refine hK.out _ _ (fun _ => HB.out) fun hS => ?_;clear hK K
     try simp only [Act.put,zA,z0,z1]
     refine rd1 (i:=11) (by kernel_rfl) (.cons rfl (fun K hK => ?_) .nil)
     refine (if_pos (by rfl)).mpr ?_
     refine Fr.ow_storeB 0 HF.out tyE rfl rfl rfl rfl rfl rfl (z4 rfl) (by repeat' (first | exact z3 _ | refine z2 ?_ ?_ | rfl | (refine HF.out.oneM ?_;simp;done))) HB.out HNbb.out ?_
     intro W2 hb HF1
     replace HB:=hid hb;simp only [setL,z0,z1] at HF1;replace HF:=hid HF1;clear hb HF1
     refine hK.out _ _ (fun h => absurd h (by simp [Fr.setAll])) fun hS => ?_;clear hK K
     try simp only [Act.put,zA,z0,z1]
     refine wpAnyG_done (by kernel_rfl) ?_ _;clear hS
     go_wp2
     go_meet
     case rel => exact ⟨_,_,rfl,rfl,HF⟩
    ·skip
     refine (if_pos (by rfl)).mpr ?_
     refine Fr.ow_allocB HF.out tyE rfl ?_
     intro bb W2 hn hb HF1
     have HNbb:=hid (Nat.le_trans HB.out.size hn);replace HB:=hid (HB.out.trans (hb.mono HB.out.size));replace HF:=hid HF1;clear hn hb HF1
     refine hK.out _ _ (fun _ => HB.out) fun hS => ?_;clear hK K
     try simp only [Act.put,zA,z0,z1]
     refine rd1 (i:=8) (by kernel_rfl) (.cons rfl (fun K hK => ?_) .nil)
     refine (if_pos (by rfl)).mpr ?_
     refine Fr.ow_allocB HF.out tyE rfl ?_
     intro ba W2 hn hb HF1
     have HNba:=hid (Nat.le_trans HB.out.size hn);replace HB:=hid (HB.out.trans (hb.mono HB.out.size));replace HF:=hid HF1;clear hn hb HF1
     refine hK.out _ _ (fun _ => HB.out) fun hS => ?_;clear hK K
     try simp only [Act.put,zA,z0,z1]
     refine rd1 (i:=10) (by kernel_rfl) (.cons rfl (fun K hK => ?_) .nil)
     refine (if_pos (by rfl)).mpr ?_
     refine Fr.ow_storeB 0 HF.out tyE rfl rfl rfl rfl rfl rfl (z4 rfl) (by repeat' (first | exact z3 _ | refine z2 ?_ ?_ | rfl | (refine HF.out.oneM ?_;simp;done))) HB.out HNba.out ?_
     intro W2 hb HF1
     replace HB:=hid hb;simp only [setL,z0,z1] at HF1;replace HF:=hid HF1;clear hb HF1
     refine hK.out _ _ (fun _ => HB.out) fun hS => ?_;clear hK K
     try simp only [Act.put,zA,z0,z1]
     refine rd1 (i:=11) (by kernel_rfl) (.cons rfl (fun K hK => ?_) .nil)
     refine (if_pos (by rfl)).mpr ?_
     refine Fr.ow_storeB 1 HF.out tyE rfl rfl rfl rfl rfl rfl (z4 rfl) (by repeat' (first | exact z3 _ | refine z2 ?_ ?_ | rfl | (refine HF.out.oneM ?_;simp;done))) HB.out HNbb.out ?_
     intro W2 hb HF1
     replace HB:=hid hb;simp only [setL,z0,z1] at HF1;replace HF:=hid HF1;clear hb HF1
     refine hK.out _ _ (fun h => absurd h (by simp [Fr.setAll])) fun hS => ?_;clear hK K
     try simp only [Act.put,zA,z0,z1]
     refine wpAnyG_done (by kernel_rfl) ?_ _;clear hS
     replace HF:=hid HF.out.flip
     go_wp2
     go_meet
     case rel => exact ⟨_,_,rfl,rfl,HF⟩
   case rest =>
    clear HF HB
    obtain ⟨ba,bb,rfl,rfl,HF⟩:=hcut
    have e0:=HF.out.cellAt 1 rfl 0 rfl
    have f0:=HF.out.cellAt 0 rfl 0 rfl
    have e1:=HF.out.cellAt 1 rfl 1 rfl
    have f1:=HF.out.cellAt 0 rfl 1 rfl
    have e2:=HF.out.cellAt 1 rfl 2 rfl
    have f2:=HF.out.cellAt 0 rfl 2 rfl
    have e3:=HF.out.cellAt 1 rfl 3 rfl
    have f3:=HF.out.cellAt 0 rfl 3 rfl
    have e4:=HF.out.cellAt 1 rfl 4 rfl
    have f4:=HF.out.cellAt 0 rfl 4 rfl
    go_wp2_with (first
     | (go_at_call 26;(with_reducible refine (HR.out xa hsz ya false 0 1 _ _ rfl rfl hs6 (by simp) HF.out).mono ?_);rintro e W3 ⟨rfl,HF1⟩;replace HF:=hid HF1;clear HF1))
    go_roundg (xs.length - (k + 1))
    case rel => exact ⟨k + 1,rfl,hlt,by simp,HS,hid HF.out.lessR.lessR.less.less⟩
    case measure => omega
  ·have hki : ¬ (k : Int) < (xs.length : Int):=by omega
   go_wp2
   refine bodyPost_ret (v:=.bool true) (by simp [results,Tryz.results26,go_sem];try rfl) rfl ⟨rfl,HF.out⟩
theorem rexprs_all : ∀ xs : List Tr.Ex,RsEx xs:=by
 have key : ∀ (n : Nat) (xs : List Tr.Ex),SizeOf.sizeOf xs < n → RsEx xs:=by
  intro n
  induction n with
  | zero => intro xs h;omega
  | succ n ih => intro xs h;exact rexprs_step xs (fun us ha => ih us (by omega))
 exact fun xs => key _ xs (Nat.lt_succ_self _)
end Go.Proofs.YtlhmkfcbldghfaaGreatDoor
