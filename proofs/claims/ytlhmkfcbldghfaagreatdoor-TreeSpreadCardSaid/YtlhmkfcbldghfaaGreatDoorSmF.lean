/- The walk of the document's SameStats at statements that are alike. Conditions: the lists are told;places are asked of empty lists alone. -/
import Derived.Test.YtlhmkfcbldghfaaGreatDoorSmE
import Derived.Test.YtlhmkfcbldghfaaGreatDoorTuIb
namespace Go.Proofs.YtlhmkfcbldghfaaGreatDoor
set_option linter.all false
open Go.Lib (hid)
set_option maxRecDepth 1000000
set_option maxHeartbeats 16000000
open Go.RowKit
open Fr (tkB tkM wT wN wE)
open Fr (setL tyS)
open Tr (blDs exDs stDs)
abbrev RsSt (xs : List Tr.St) : Prop:=∀ {w W : World} {g : Option Nat} {Kp : World → Prop} {R : List Fr.RI} {Ds : List (Value × Da.D)} (ys : List Tr.St) (pl : Bool) (m n : Nat) (v u : Value) (_ : Ds[m]? = some (v,Da.D.list 6 (stDs xs))) (_ : Ds[n]? = some (u,Da.D.list 6 (stDs ys))) (_ : Tr.stsS pl xs ys = true) (_ : pl = true → xs = []) (_ : Fr.Fm w g Kp W R Ds),
  Calls Tryz.prog 23 #[v,u,.bool pl] W fun e W' => e = .returned (.bool true) ∧ Fr.Fm w g Kp W' R Ds
theorem rstats_step (xs : List Tr.St) (ih : ∀ us : List Tr.St,SizeOf.sizeOf us < SizeOf.sizeOf xs → RsSt us) : RsSt xs:=by
 intro w W g Kp R Ds ys pl m n v u hd hu hs hp h
 have hlen : xs.length = ys.length:=by
  by_cases he : xs.length = ys.length
  ·exact he
  ·rw [Tr.stsS_len he] at hs;cases hs
 obtain ⟨p,c,rfl,hl,hpp⟩:=h.daSlice hd
 obtain ⟨p2,c2,rfl,hl2,hpp2⟩:=h.daSlice hu
 rw [Fr.stDs_len] at hl hpp hd hl2 hpp2 hu ⊢
 rw [Fr.stDs_len,← hlen]
 rw [← hlen] at hl2 hpp2 hu
 have HF:=hid h
 have HD:=hid hd
 have HU:=hid hu
 have HP:=hid hpp
 have HP2:=hid hpp2
 have HR : RowKit.Hid (∀ us : List Tr.St,SizeOf.sizeOf us < SizeOf.sizeOf xs → RsSt us):=hid ih
 have HS:=hid hs
 have HPL:=hid hp
 have HLN:=hid hlen
 have hl3 : (xs.length : Int) ≤ 9223372036854775807:=by omega
 clear h hd hu hpp hpp2 hs hp hlen hl2 ih
 go_enter Tryz.func23,Tryz.ntmps23
 go_wp2
 go_loopg [7] xs.length (fun gm v7 wr => ∃ k : Nat,gm = xs.length - k ∧ k ≤ xs.length ∧ v7 = .int .i64 k ∧ RowKit.Hid (Tr.stsS pl (xs.drop k) (ys.drop k) = true) ∧ RowKit.Hid (Fr.Fm w g Kp wr R Ds))
 case atStart => exact ⟨0,by simp,by omega,rfl,HS,HF⟩
 case round =>
  clear HF HS
  obtain ⟨k,hg,hk,rfl,HS,HF⟩:=hrel
  by_cases hlt : k < xs.length
  ·obtain ⟨b,off,rfl⟩:=HP.out (by omega)
   obtain ⟨b2,off2,rfl⟩:=HP2.out (by omega)
   have hki : (k : Int) < (xs.length : Int):=by omega
   have hk0 : (0 : Int) ≤ (k : Int):=by omega
   have hk1 : (k : Int) ≤ 9223372036854775807:=by omega
   have hlt2 : k < ys.length:=by have:=HLN.out;omega
   obtain rfl : pl = false:=by
    cases pl with
    | false => rfl
    | true => have:=HPL.out rfl;rw [this] at hlt;simp at hlt
   have hs:=HS.out
   rw [List.drop_eq_getElem_cons hlt,List.drop_eq_getElem_cons hlt2] at hs
   have hmem : xs[k] ∈ xs:=List.getElem_mem hlt
   have hi : (stDs xs)[k]? = some (Tr.stD xs[k]):=by rw [Tr.stDs_map];simp [hlt]
   have hi2 : (stDs ys)[k]? = some (Tr.stD ys[k]):=by rw [Tr.stDs_map];simp [hlt2]
   generalize xs[k] = x0 at hs hmem hi
   generalize ys[k] = y0 at hs hi2
   obtain ⟨kd,nm,es,ls,bs,xq⟩:=x0
   obtain ⟨kd2,nm2,es2,ls2,bs2,yq⟩:=y0
   have hsz:=List.sizeOf_lt_of_mem hmem
   simp only [Tr.St.mk.sizeOf_spec] at hsz
   unfold Tr.stsS Tr.stS at hs
   simp only [Bool.and_eq_true,Bool.not_eq_true',bne_eq_false_iff_eq] at hs
   obtain ⟨⟨⟨⟨⟨⟨rfl,rfl⟩,-⟩,hs4⟩,hs5⟩,hs6⟩,hsr⟩:=hs
   replace HS:=hid hsr
   have hz1 : SizeOf.sizeOf bs < SizeOf.sizeOf xs:=by omega
   have hll : ls.length = ls2.length:=by
    by_cases he : ls.length = ls2.length
    ·exact he
    ·rw [Tr.labS_len he] at hs5;cases hs5
   have hbl : bs.length = bs2.length:=by
    by_cases he : bs.length = bs2.length
    ·exact he
    ·rw [Tr.blsS_len he] at hs6;cases hs6
   unfold Tr.stD at hi hi2
   obtain ⟨ca,ra,hra,hba⟩:=HF.out.rowAt HD.out k hi
   obtain ⟨cb,rb,hrb,hbb⟩:=HF.out.rowAt HU.out k hi2
   obtain ⟨a0,a1,a2,a3,a4,a5,rfl,ha0,ha1,ha2,ha3,ha4,ha5⟩:=Fr.row6 hra;clear hra
   obtain rfl:=Fr.is_str ha1
   obtain rfl:=Fr.is_int ha0
   obtain rfl:=Fr.is_int ha5
   clear ha0 ha1 ha5
   obtain ⟨b0,b1,b2,b3,b4,b5,rfl,hb0,hb1,hb2,hb3,hb4,hb5⟩:=Fr.row6 hrb;clear hrb
   obtain rfl:=Fr.is_str hb1
   obtain rfl:=Fr.is_int hb0
   obtain rfl:=Fr.is_int hb5
   clear hb0 hb1 hb5
   replace HF:=hid ((((((HF.out.plus hb4).plus hb3).plus hb2).plus ha4).plus ha3).plus ha2)
   obtain ⟨ap3,a3c,rfl,hl3a,hp3a⟩:=HF.out.daSlice (m:=1) rfl
   obtain ⟨ap4,a4c,rfl,hl4a,hp4a⟩:=HF.out.daSlice (m:=2) rfl
   obtain ⟨bp3,b3c,rfl,hl3b,hp3b⟩:=HF.out.daSlice (m:=4) rfl
   obtain ⟨bp4,b4c,rfl,hl4b,hp4b⟩:=HF.out.daSlice (m:=5) rfl
   rw [List.length_map] at hl3a hp3a hl3b hp3b
   rw [Fr.blDs_len] at hl4a hp4a hl4b hp4b
   rw [← hll] at hl3b hp3b
   rw [← hbl] at hl4b hp4b
   simp only [List.length_map,Fr.blDs_len,← hll,← hbl] at HF ra rb
   have HP3A:=hid hp3a
   have HP4A:=hid hp4a
   have HP3B:=hid hp3b
   have HP4B:=hid hp4b
   have HIN:=hid hs5
   have HIN2:=hid hs6
   have HB:=hid ((Below.refl wr.heap.size wr).drew)
   clear hsr hmem hp3a hp4a hp3b hp4b hll hbl hsz ha2 ha3 ha4 hb2 hb3 hb4 hs5 hs6
   go_wp2
   go_cut [8,9] from 23 to 30 (fun v8 v9 wc => ∃ ba bb : Nat,v8 = .pointer (some ⟨ba,0,none⟩) ∧ v9 = .pointer (some ⟨bb,0,none⟩) ∧ RowKit.Hid (Fr.Fm w g Kp wc (.blk bb [.int .i64 kd,.string ⟨nm.toArray⟩,b2,.slice bp3 ls.length b3c,.slice bp4 bs.length b4c,.int .i64 yq] :: .blk ba [.int .i64 kd,.string ⟨nm.toArray⟩,a2,.slice ap3 ls.length a3c,.slice ap4 bs.length a4c,.int .i64 xq] :: R) ((a2,Da.D.list 6 (exDs es)) :: (.slice ap3 ls.length a3c,Da.D.list 1 (ls.map fun l => [Da.D.list 6 (exDs l)])) :: (.slice ap4 bs.length a4c,Da.D.list 1 (blDs bs)) :: (b2,Da.D.list 6 (exDs es2)) :: (.slice bp3 ls.length b3c,Da.D.list 1 (ls2.map fun l => [Da.D.list 6 (exDs l)])) :: (.slice bp4 bs.length b4c,Da.D.list 1 (blDs bs2)) :: Ds)))
   case first =>
    replace HF:=hid HF.out.drew
    refine wp_region_G (UpTo 11 (fun X => Below wr.heap.size wr X)) 12 (by kernel_rfl) (by kernel_rfl) (fun _ => HB.out) (fun _ hS => ?_)
    generalize World.drew _ = W1 at HF HB hS ⊢
    refine tkB (n:=12) (is:=[0,1,2,3,4,5,6,7]) [[0],[1],[2],[3],[4],[5],[6],[7]] (k:=8) rfl (by kernel_rfl) (fun d _ _ _ _ h => by cases d <;> exact h) hS ?_
    repeat (first | (refine wT (i:=3) (v:=.agg #[.int .i64 kd,.string ⟨nm.toArray⟩,a2,.slice ap3 ls.length a3c,.slice ap4 bs.length a4c,.int .i64 xq]) rfl (by rfl) (fun X xb => ?_) ?_;(focus (exact Fr.exec_row rfl rfl ra xb hba Tryz.underlying51 rfl tyS rfl))) | (refine wT (i:=7) (v:=.agg #[.int .i64 kd,.string ⟨nm.toArray⟩,b2,.slice bp3 ls.length b3c,.slice bp4 bs.length b4c,.int .i64 yq]) rfl (by rfl) (fun X xb => ?_) ?_;(focus (exact Fr.exec_row rfl rfl rb xb hbb Tryz.underlying51 rfl tyS rfl))) | (refine wT (v:=?_) rfl (by rfl) (fun X hX => ?_) ?_;rotate_left 1;(focus (clear hX;go_simp;try with_reducible rfl))));try simp only [Act.put,zA,z0,z1]
    refine wE fun hS => ?_
    refine wpAnyG_ready (rs:=[8,9]) (by kernel_rfl) (by simp) ?_
    refine AllReadyG.cons rfl (fun K hK => ?_) (AllReadyG.cons rfl (fun K hK => ?_) AllReadyG.nil)
    ·skip
     refine (if_pos (by rfl)).mpr ?_
     refine Fr.ow_allocB HF.out tyS rfl ?_
     intro ba W2 hn hb HF1
     have HNba:=hid (Nat.le_trans HB.out.size hn);replace HB:=hid (HB.out.trans (hb.mono HB.out.size));replace HF:=hid HF1;clear hn hb HF1
     refine hK.out _ _ (fun _ => HB.out) fun hS => ?_;clear hK K
     try simp only [Act.put,zA,z0,z1]
     refine rd1 (i:=9) (by kernel_rfl) (.cons rfl (fun K hK => ?_) .nil)
     refine (if_pos (by rfl)).mpr ?_
     refine Fr.ow_allocB HF.out tyS rfl ?_
     intro bb W2 hn hb HF1
     have HNbb:=hid (Nat.le_trans HB.out.size hn);replace HB:=hid (HB.out.trans (hb.mono HB.out.size));replace HF:=hid HF1;clear hn hb HF1
     refine hK.out _ _ (fun _ => HB.out) fun hS => ?_;clear hK K
     try simp only [Act.put,zA,z0,z1]
     refine rd1 (i:=10) (by kernel_rfl) (.cons rfl (fun K hK => ?_) .nil)
     refine (if_pos (by rfl)).mpr ?_
     refine Fr.ow_storeB 1 HF.out tyS rfl rfl rfl rfl rfl rfl (z4 rfl) (by repeat' (first | exact z3 _ | refine z2 ?_ ?_ | rfl | (refine HF.out.oneM ?_;simp;done))) HB.out HNba.out ?_
     intro W2 hb HF1
     replace HB:=hid hb;simp only [setL,z0,z1] at HF1;replace HF:=hid HF1;clear hb HF1
     refine hK.out _ _ (fun _ => HB.out) fun hS => ?_;clear hK K
     try simp only [Act.put,zA,z0,z1]
     refine rd1 (i:=11) (by kernel_rfl) (.cons rfl (fun K hK => ?_) .nil)
     refine (if_pos (by rfl)).mpr ?_
     refine Fr.ow_storeB 0 HF.out tyS rfl rfl rfl rfl rfl rfl (z4 rfl) (by repeat' (first | exact z3 _ | refine z2 ?_ ?_ | rfl | (refine HF.out.oneM ?_;simp;done))) HB.out HNbb.out ?_
     intro W2 hb HF1
     replace HB:=hid hb;simp only [setL,z0,z1] at HF1;replace HF:=hid HF1;clear hb HF1
     refine hK.out _ _ (fun h => absurd h (by simp [Fr.setAll])) fun hS => ?_;clear hK K
     try simp only [Act.put,zA,z0,z1]
     refine wpAnyG_done (by kernel_rfl) ?_ _;clear hS
     go_wp2
     go_meet
     case rel => exact ⟨_,_,rfl,rfl,HF⟩
    ·skip
     refine (if_pos (by rfl)).mpr ?_
     refine Fr.ow_allocB HF.out tyS rfl ?_
     intro bb W2 hn hb HF1
     have HNbb:=hid (Nat.le_trans HB.out.size hn);replace HB:=hid (HB.out.trans (hb.mono HB.out.size));replace HF:=hid HF1;clear hn hb HF1
     refine hK.out _ _ (fun _ => HB.out) fun hS => ?_;clear hK K
     try simp only [Act.put,zA,z0,z1]
     refine rd1 (i:=8) (by kernel_rfl) (.cons rfl (fun K hK => ?_) .nil)
     refine (if_pos (by rfl)).mpr ?_
     refine Fr.ow_allocB HF.out tyS rfl ?_
     intro ba W2 hn hb HF1
     have HNba:=hid (Nat.le_trans HB.out.size hn);replace HB:=hid (HB.out.trans (hb.mono HB.out.size));replace HF:=hid HF1;clear hn hb HF1
     refine hK.out _ _ (fun _ => HB.out) fun hS => ?_;clear hK K
     try simp only [Act.put,zA,z0,z1]
     refine rd1 (i:=10) (by kernel_rfl) (.cons rfl (fun K hK => ?_) .nil)
     refine (if_pos (by rfl)).mpr ?_
     refine Fr.ow_storeB 0 HF.out tyS rfl rfl rfl rfl rfl rfl (z4 rfl) (by repeat' (first | exact z3 _ | refine z2 ?_ ?_ | rfl | (refine HF.out.oneM ?_;simp;done))) HB.out HNba.out ?_
     intro W2 hb HF1
     replace HB:=hid hb;simp only [setL,z0,z1] at HF1;replace HF:=hid HF1;clear hb HF1
     refine hK.out _ _ (fun _ => HB.out) fun hS => ?_;clear hK K
     try simp only [Act.put,zA,z0,z1]
     refine rd1 (i:=11) (by kernel_rfl) (.cons rfl (fun K hK => ?_) .nil)
     refine (if_pos (by rfl)).mpr ?_
     refine Fr.ow_storeB 1 HF.out tyS rfl rfl rfl rfl rfl rfl (z4 rfl) (by repeat' (first | exact z3 _ | refine z2 ?_ ?_ | rfl | (refine HF.out.oneM ?_;simp;done))) HB.out HNbb.out ?_
     intro W2 hb HF1
     replace HB:=hid hb;simp only [setL,z0,z1] at HF1;replace HF:=hid HF1;clear hb HF1
     refine hK.out _ _ (fun h => absurd h (by simp [Fr.setAll])) fun hS => ?_;clear hK K
     try simp only [Act.put,zA,z0,z1]
     refine wpAnyG_done (by kernel_rfl) ?_ _;clear hS
     replace HF:=hid HF.out.flip
     go_wp2
     go_meet
     case rel => exact ⟨_,_,rfl,rfl,HF⟩
   case rest =>
    clear HF HB
    obtain ⟨ba,bb,rfl,rfl,HF⟩:=hcut
    have e0:=HF.out.cellAt 1 rfl 0 rfl
    have f0:=HF.out.cellAt 0 rfl 0 rfl
    have e1:=HF.out.cellAt 1 rfl 1 rfl
    have f1:=HF.out.cellAt 0 rfl 1 rfl
    have e2:=HF.out.cellAt 1 rfl 2 rfl
    have f2:=HF.out.cellAt 0 rfl 2 rfl
    have e3:=HF.out.cellAt 1 rfl 3 rfl
    have f3:=HF.out.cellAt 0 rfl 3 rfl
    have e4:=HF.out.cellAt 1 rfl 4 rfl
    have f4:=HF.out.cellAt 0 rfl 4 rfl
    go_wp2_with (first
     | (go_at_call 26;(with_reducible refine (rexprs_all es es2 false 0 3 _ _ rfl rfl hs4 (by simp) HF.out).mono ?_);rintro e W3 ⟨rfl,HF1⟩;replace HF:=hid HF1;clear HF1))
    clear e0 e1 e2 e3 e4 f0 f1 f2 f3 f4
    go_loopg [10] ls.length (fun gm v10 wr2 => ∃ j : Nat,gm = ls.length - j ∧ j ≤ ls.length ∧ v10 = .int .i64 j ∧ RowKit.Hid (Tr.labS false (ls.drop j) (ls2.drop j) = true) ∧ RowKit.Hid (Fr.Fm w g Kp wr2 (.blk bb [.int .i64 kd,.string ⟨nm.toArray⟩,b2,.slice bp3 ls.length b3c,.slice bp4 bs.length b4c,.int .i64 yq] :: .blk ba [.int .i64 kd,.string ⟨nm.toArray⟩,a2,.slice ap3 ls.length a3c,.slice ap4 bs.length a4c,.int .i64 xq] :: R) ((a2,Da.D.list 6 (exDs es)) :: (.slice ap3 ls.length a3c,Da.D.list 1 (ls.map fun l => [Da.D.list 6 (exDs l)])) :: (.slice ap4 bs.length a4c,Da.D.list 1 (blDs bs)) :: (b2,Da.D.list 6 (exDs es2)) :: (.slice bp3 ls.length b3c,Da.D.list 1 (ls2.map fun l => [Da.D.list 6 (exDs l)])) :: (.slice bp4 bs.length b4c,Da.D.list 1 (blDs bs2)) :: Ds)))
    case atStart => exact ⟨0,by simp,by omega,rfl,HIN,HF⟩
    case round =>
     have HG:=hid hg
     clear hg
     clear HF HIN
     obtain ⟨j,hg,hj,rfl,HIN,HF⟩:=hrel
     have eL:=HF.out.cellAt 1 rfl 3 rfl
     have fL:=HF.out.cellAt 0 rfl 3 rfl
     have hlba:=HF.out.ltAt 1 rfl
     have hlbb:=HF.out.ltAt 0 rfl
     by_cases hjl : j < ls.length
     ·obtain ⟨bx6,off6,rfl⟩:=HP3A.out (by omega)
      obtain ⟨by6,off7,rfl⟩:=HP3B.out (by omega)
      have hji : (j : Int) < (ls.length : Int):=by omega
      have hj0 : (0 : Int) ≤ (j : Int):=by omega
      have hj1 : (j : Int) ≤ 9223372036854775807:=by omega
      have hjl2 : j < ls2.length:=by
       have h1:=HIN.out
       by_cases h2 : j < ls2.length
       ·exact h2
       ·rw [Tr.labS_len (by simp;omega)] at h1;cases h1
      have hs:=HIN.out
      rw [List.drop_eq_getElem_cons hjl,List.drop_eq_getElem_cons hjl2] at hs
      have hi3 : (ls.map fun l => [Da.D.list 6 (exDs l)])[j]? = some [Da.D.list 6 (exDs ls[j])]:=by simp [hjl]
      have hi4 : (ls2.map fun l => [Da.D.list 6 (exDs l)])[j]? = some [Da.D.list 6 (exDs ls2[j])]:=by simp [hjl2]
      generalize ls[j] = l1 at hs hi3 
      generalize ls2[j] = l2 at hs hi4
      unfold Tr.labS at hs
      simp only [Bool.and_eq_true] at hs
      obtain ⟨hsl,hsr⟩:=hs
      replace HIN:=hid hsr
      obtain ⟨va,cva,hva,HF2⟩:=HF.out.fieldCell (m:=1) rfl j 0 hi3 rfl
      obtain ⟨vb,cvb,hvb,HF3⟩:=HF2.fieldCell (m:=5) rfl j 0 hi4 rfl
      replace HF:=hid HF3
      have HB:=hid ((Below.refl wr.heap.size wr).drew)
      clear hsr HF2 HF3
      go_wp2
      replace HF:=hid HF.out.drew
      refine wp_region_G (UpTo 11 (fun X => Below wr.heap.size wr X)) 13 (by kernel_rfl) (by kernel_rfl) (fun _ => HB.out) (fun _ hS => ?_)
      generalize World.drew _ = W1 at HF HB hS ⊢
      refine tkB (n:=13) (is:=[0,1,2,3,4,5,6,7,8,9,10]) [[4,3,1,0],[4,3,1],[4,3,2],[4,3],[4],[9,8,6,5],[9,8,6],[9,8,7],[9,8],[9],[10]] (k:=11) rfl (by kernel_rfl) (fun d _ _ _ _ h => by cases d <;> exact h) hS ?_
      repeat (first | (refine wT (i:=1) (v:=.slice (some ⟨bx6,off6,none⟩) ls.length a3c) rfl (by rfl) (fun X xb => ?_) ?_;(focus (have y:=(xb.cell (p:=⟨ba,3,none⟩) hlba).trans eL;clear xb;go_simp;try with_reducible rfl))) | (refine wT (i:=4) (v:=va) rfl (by rfl) (fun X xb => ?_) ?_;(focus (have y:=(xb.cell (p:=⟨bx6,off6 + j * 1 + 0,none⟩) hva).trans cva;simp only [Nat.mul_one,Nat.add_zero] at y;clear xb;go_simp;try with_reducible rfl))) | (refine wT (i:=6) (v:=.slice (some ⟨by6,off7,none⟩) ls.length b3c) rfl (by rfl) (fun X xb => ?_) ?_;(focus (have y:=(xb.cell (p:=⟨bb,3,none⟩) hlbb).trans fL;clear xb;go_simp;try with_reducible rfl))) | (refine wT (i:=9) (v:=vb) rfl (by rfl) (fun X xb => ?_) ?_;(focus (have y:=(xb.cell (p:=⟨by6,off7 + j * 1 + 0,none⟩) hvb).trans cvb;simp only [Nat.mul_one,Nat.add_zero] at y;clear xb;go_simp;try with_reducible rfl))) | (refine wT (v:=?_) rfl (by rfl) (fun X hX => ?_) ?_;rotate_left 1;(focus (clear hX;go_simp;try with_reducible rfl))));try simp only [Act.put,zA,z0,z1]
      refine wE fun hS => ?_
      refine rd1 (i:=11) (by kernel_rfl) (.cons rfl (fun K hK => ?_) .nil)
      go_simp
      (go_at_call 26;(with_reducible refine (rexprs_all l1 l2 false 1 0 _ _ rfl rfl hsl (by simp) HF.out).mono ?_);rintro e W3 ⟨rfl,HF1⟩;replace HF:=hid HF1;clear HF1)
      go_simp
      refine hK.out _ _ (fun h => absurd h (by simp [Fr.setAll])) fun hS => ?_;clear hK K
      try simp only [Act.put,zA,z0,z1]
      refine tkM (n:=13) (is:=[12]) (k:=1) rfl (by kernel_rfl) (fun d _ _ _ _ h => by cases d <;> exact h) hS ?_
      repeat (first | (refine wT (v:=?_) rfl (by rfl) (fun X hX => ?_) ?_;rotate_left 1;(focus (clear hX;go_simp;try with_reducible rfl))));try simp only [Act.put,zA,z0,z1]
      refine wE fun hS => ?_
      refine wpAnyG_done (by kernel_rfl) ?_ _;clear hS
      go_wp2
      go_roundg (ls.length - (j + 1))
      case rel => exact ⟨j + 1,rfl,hjl,by simp,HIN,hid HF.out.less.less⟩
      case measure => omega
     ·have hji : ¬ (j : Int) < (ls.length : Int):=by omega
      go_wp2
      have HIN:=HIN2
      clear HIN2 eL fL hlba hlbb hji hjl
      go_loopg [11] bs.length (fun gm v10 wr2 => ∃ j : Nat,gm = bs.length - j ∧ j ≤ bs.length ∧ v10 = .int .i64 j ∧ RowKit.Hid (Tr.blsS false (bs.drop j) (bs2.drop j) = true) ∧ RowKit.Hid (Fr.Fm w g Kp wr2 (.blk bb [.int .i64 kd,.string ⟨nm.toArray⟩,b2,.slice bp3 ls.length b3c,.slice bp4 bs.length b4c,.int .i64 yq] :: .blk ba [.int .i64 kd,.string ⟨nm.toArray⟩,a2,.slice ap3 ls.length a3c,.slice ap4 bs.length a4c,.int .i64 xq] :: R) ((a2,Da.D.list 6 (exDs es)) :: (.slice ap3 ls.length a3c,Da.D.list 1 (ls.map fun l => [Da.D.list 6 (exDs l)])) :: (.slice ap4 bs.length a4c,Da.D.list 1 (blDs bs)) :: (b2,Da.D.list 6 (exDs es2)) :: (.slice bp3 ls.length b3c,Da.D.list 1 (ls2.map fun l => [Da.D.list 6 (exDs l)])) :: (.slice bp4 bs.length b4c,Da.D.list 1 (blDs bs2)) :: Ds)))
      case atStart => exact ⟨0,by simp,by omega,rfl,HIN,HF⟩
      case round =>
       clear hg hj
       clear HF HIN
       obtain ⟨j,hg,hj,rfl,HIN,HF⟩:=hrel
       have eL:=HF.out.cellAt 1 rfl 4 rfl
       have fL:=HF.out.cellAt 0 rfl 4 rfl
       have hlba:=HF.out.ltAt 1 rfl
       have hlbb:=HF.out.ltAt 0 rfl
       by_cases hjl : j < bs.length
       ·obtain ⟨bx6,off6,rfl⟩:=HP4A.out (by omega)
        obtain ⟨by6,off7,rfl⟩:=HP4B.out (by omega)
        have hji : (j : Int) < (bs.length : Int):=by omega
        have hj0 : (0 : Int) ≤ (j : Int):=by omega
        have hj1 : (j : Int) ≤ 9223372036854775807:=by omega
        have hjl2 : j < bs2.length:=by
         have h1:=HIN.out
         by_cases h2 : j < bs2.length
         ·exact h2
         ·rw [Tr.blsS_len (by simp;omega)] at h1;cases h1
        have hs:=HIN.out
        rw [List.drop_eq_getElem_cons hjl,List.drop_eq_getElem_cons hjl2] at hs
        have hmb : bs[j] ∈ bs:=List.getElem_mem hjl
        have hi3 : (blDs bs)[j]? = some [Da.D.list 6 (stDs bs[j])]:=by rw [Tr.blDs_map];simp [hjl]
        have hi4 : (blDs bs2)[j]? = some [Da.D.list 6 (stDs bs2[j])]:=by rw [Tr.blDs_map];simp [hjl2]
        generalize bs[j] = l1 at hs hi3 hmb
        generalize bs2[j] = l2 at hs hi4
        have hszb : SizeOf.sizeOf l1 < SizeOf.sizeOf xs:=by have:=List.sizeOf_lt_of_mem hmb;omega
        clear hmb
        unfold Tr.blsS at hs
        simp only [Bool.and_eq_true] at hs
        obtain ⟨hsl,hsr⟩:=hs
        replace HIN:=hid hsr
        obtain ⟨va,cva,hva,HF2⟩:=HF.out.fieldCell (m:=2) rfl j 0 hi3 rfl
        obtain ⟨vb,cvb,hvb,HF3⟩:=HF2.fieldCell (m:=6) rfl j 0 hi4 rfl
        replace HF:=hid HF3
        have HB:=hid ((Below.refl wr.heap.size wr).drew)
        clear hsr HF2 HF3
        go_wp2
        replace HF:=hid HF.out.drew
        refine wp_region_G (UpTo 11 (fun X => Below wr.heap.size wr X)) 13 (by kernel_rfl) (by kernel_rfl) (fun _ => HB.out) (fun _ hS => ?_)
        generalize World.drew _ = W1 at HF HB hS ⊢
        refine tkB (n:=13) (is:=[0,1,2,3,4,5,6,7,8,9,10]) [[4,3,1,0],[4,3,1],[4,3,2],[4,3],[4],[9,8,6,5],[9,8,6],[9,8,7],[9,8],[9],[10]] (k:=11) rfl (by kernel_rfl) (fun d _ _ _ _ h => by cases d <;> exact h) hS ?_
        repeat (first | (refine wT (i:=1) (v:=.slice (some ⟨bx6,off6,none⟩) bs.length a4c) rfl (by rfl) (fun X xb => ?_) ?_;(focus (have y:=(xb.cell (p:=⟨ba,4,none⟩) hlba).trans eL;clear xb;go_simp;try with_reducible rfl))) | (refine wT (i:=4) (v:=va) rfl (by rfl) (fun X xb => ?_) ?_;(focus (have y:=(xb.cell (p:=⟨bx6,off6 + j * 1 + 0,none⟩) hva).trans cva;simp only [Nat.mul_one,Nat.add_zero] at y;clear xb;go_simp;try with_reducible rfl))) | (refine wT (i:=6) (v:=.slice (some ⟨by6,off7,none⟩) bs.length b4c) rfl (by rfl) (fun X xb => ?_) ?_;(focus (have y:=(xb.cell (p:=⟨bb,4,none⟩) hlbb).trans fL;clear xb;go_simp;try with_reducible rfl))) | (refine wT (i:=9) (v:=vb) rfl (by rfl) (fun X xb => ?_) ?_;(focus (have y:=(xb.cell (p:=⟨by6,off7 + j * 1 + 0,none⟩) hvb).trans cvb;simp only [Nat.mul_one,Nat.add_zero] at y;clear xb;go_simp;try with_reducible rfl))) | (refine wT (v:=?_) rfl (by rfl) (fun X hX => ?_) ?_;rotate_left 1;(focus (clear hX;go_simp;try with_reducible rfl))));try simp only [Act.put,zA,z0,z1]
        refine wE fun hS => ?_
        refine rd1 (i:=11) (by kernel_rfl) (.cons rfl (fun K hK => ?_) .nil)
        go_simp
        (go_at_call 23;(with_reducible refine (HR.out l1 hszb l2 false 1 0 _ _ rfl rfl hsl (by simp) HF.out).mono ?_);rintro e W3 ⟨rfl,HF1⟩;replace HF:=hid HF1;clear HF1)
        go_simp
        refine hK.out _ _ (fun h => absurd h (by simp [Fr.setAll])) fun hS => ?_;clear hK K
        try simp only [Act.put,zA,z0,z1]
        refine tkM (n:=13) (is:=[12]) (k:=1) rfl (by kernel_rfl) (fun d _ _ _ _ h => by cases d <;> exact h) hS ?_
        repeat (first | (refine wT (v:=?_) rfl (by rfl) (fun X hX => ?_) ?_;rotate_left 1;(focus (clear hX;go_simp;try with_reducible rfl))));try simp only [Act.put,zA,z0,z1]
        refine wE fun hS => ?_
        refine wpAnyG_done (by kernel_rfl) ?_ _;clear hS
        go_wp2
        go_roundg (bs.length - (j + 1))
        case rel => exact ⟨j + 1,rfl,hjl,by simp,HIN,hid HF.out.less.less⟩
        case measure => omega
       ·have hji : ¬ (j : Int) < (bs.length : Int):=by omega
        go_wp2
        go_roundg (xs.length - (k + 1))
        case rel => exact ⟨k + 1,rfl,hlt,by simp,HS,hid HF.out.lessR.lessR.less.less.less.less.less.less⟩
        case measure => have:=HG.out;omega
  ·have hki : ¬ (k : Int) < (xs.length : Int):=by omega
   go_wp2
   refine bodyPost_ret (v:=.bool true) (by simp [results,Tryz.results23,go_sem];try rfl) rfl ⟨rfl,HF.out⟩
theorem rstats_all : ∀ xs : List Tr.St,RsSt xs:=by
 have key : ∀ (n : Nat) (xs : List Tr.St),SizeOf.sizeOf xs < n → RsSt xs:=by
  intro n
  induction n with
  | zero => intro xs h;omega
  | succ n ih => intro xs h;exact rstats_step xs (fun us ha => ih us (by omega))
 exact fun xs => key _ xs (Nat.lt_succ_self _)
end Go.Proofs.YtlhmkfcbldghfaaGreatDoor
