/- What the walks of EqualFunc have in common. Conditions: both lists hold the same data;the predicate answers true at each. -/
import Derived.Test.YtlhmkfcbldghfaaGreatDoorSnA
namespace Go.Proofs.YtlhmkfcbldghfaaGreatDoor
set_option linter.all false
open Go.Lib (hid)
set_option maxRecDepth 1000000
set_option maxHeartbeats 16000000
open Go.RowKit
open Fr (is_alloc is_load is_store tyC tyE tyF tyI tyPa tyPr tyS tyT tyTy tyV wl_alloc wl_load wl_loadAt wl_store zM)
namespace Fr
open Da Tr
theorem setL_all{cs vs:List Value}(h:vs.length=cs.length):setL cs 0 vs=vs:=by
 rw [setL_G]
 apply List.ext_getElem?
 intro m
 rw [setG_at]
 by_cases hm:m<vs.length
 ·rw [if_pos ⟨Nat.zero_le _,by omega,by omega⟩,Nat.sub_zero]
 ·rw [if_neg (by omega),List.getElem?_eq_none (by omega),List.getElem?_eq_none (by omega)]
theorem zipAt{vs:List Value}{ds:List D}{Ds:List (Value × D)}{m:Nat}{x:Value × D}(hl:vs.length=ds.length)(h:Ds[m]?=some x):(vs.zip ds++Ds)[vs.length+m]?=some x:=by
 have e:(vs.zip ds).length=vs.length:=by rw [List.length_zip];omega
 rw [List.getElem?_append_right (by omega),e,Nat.add_sub_cancel_left]
 exact h
end Fr
def PrE(A:List Value→Value)(Kp:World→Prop)(f:Nat)(ds:List Da.D):Prop:=
 ∀(w W:World) (g:Option Nat) (R:List Fr.RI) (Ds:List (Value × Da.D)) (vs us:List Value),Fr.Fm w g Kp W R Ds→Da.Row W (Fr.Off w.heap.size R) vs ds→Da.Row W (Fr.Off w.heap.size R) us ds →
  Calls Tryz.prog f #[A vs,A us] W fun e W'=>e=.returned (.bool true)∧Fr.Fm w g Kp W' R Ds
def EqD(A:List Value→Value)(n F:Nat):Prop:=
 ∀(Kp:World→Prop) (f:Nat) (hc:∀(args:Array Value) (X:World),(callFunc f args).run Tryz.prog X=.ok (.enter f args) X) (rows:List (List Da.D)) (hl:∀ ds∈rows,ds.length=n) (hok:∀ ds∈rows,PrE A Kp f ds)
  (w W:World) (g:Option Nat) (R:List Fr.RI) (Ds:List (Value × Da.D)) (m k:Nat) (v u:Value),Ds[m]?=some (v,Da.D.list n rows)→Ds[k]?=some (u,Da.D.list n rows)→Fr.Fm w g Kp W R Ds →
  Calls Tryz.prog F #[v,u,.func (.func f) #[] #[]] W fun e W'=>e=.returned (.bool true)∧Fr.Fm w g Kp W' R Ds
theorem eqf_tyE:EqD rowV 6 75:=by
 intro Kp f hc rows hl hok w W g R Ds m i v u hd hu h
 obtain⟨p,c,rfl,h2,hpp⟩:=h.daSlice hd
 obtain⟨p2,c2,rfl,-,hpp2⟩:=h.daSlice hu
 have HF:=hid h
 have HD:=hid hd
 have HU:=hid hu
 have HP:=hid hpp
 have HP2:=hid hpp2
 have HOK:=hid hok
 have HLN:=hid hl
 have hl3:(rows.length:Int)≤9223372036854775807:=by omega
 clear h hd hu hpp hpp2 hok hl
 go_enter Tryz.func75,Tryz.ntmps75
 go_wp2
 go_loopg [17] rows.length (fun gm v8 wr=>∃ j:Nat,gm=rows.length - j∧j≤rows.length∧v8=.int .i64 j∧RowKit.Hid (Fr.Fm w g Kp wr R Ds))
 case atStart=>exact⟨0,by simp,by omega,rfl,HF⟩
 case round =>
  clear HF
  obtain⟨j,hg,hj,rfl,HF⟩:=hrel
  by_cases hlt:j<rows.length
  ·obtain⟨bx,off,rfl⟩:=HP.out (by omega)
   obtain⟨by0,off2,rfl⟩:=HP2.out (by omega)
   have hki:(j:Int)<(rows.length:Int):=by omega
   have hk0:(0:Int)≤(j:Int):=by omega
   have hk1:(j:Int)≤9223372036854775807:=by omega
   have hmem:rows[j]∈rows:=List.getElem_mem hlt
   have hi:rows[j]?=some rows[j]:=List.getElem?_eq_getElem hlt
   generalize rows[j]=ds at hmem hi
   have HO1:=hid (HOK.out _ hmem)
   have HLd:=hid (HLN.out _ hmem)
   have HM0:=hid trivial
   clear hmem
   go_wp2_with (first
    | ((with_reducible refine is_load (T:=53) ?_);(first|(clear HM0;(refine wl_loadAt m HF.out HD.out j rfl (by first|rfl|omega) hi Tryz.underlying53 rfl tyE rfl ?_;intro vs hrow;replace HF:=hid (HF.out.rowPlus hrow);have HLr:=hid hrow.1;have HLv:=hid (hrow.1.trans HLd.out);have HU2:=hid (Fr.zipAt hrow.1 HU.out);clear hrow))|(refine wl_loadAt (vs.length+i) HF.out HU2.out j rfl (by first|rfl|omega) hi Tryz.underlying53 rfl tyE rfl ?_;intro us hrow;replace HF:=hid (HF.out.rowPlus hrow);have HLs:=hid hrow.1;have HLu:=hid (hrow.1.trans HLd.out);clear hrow)|(refine wl_load 1 HF.out rfl rfl Tryz.underlying53 rfl tyE HLv.out ?_)|(refine wl_load 0 HF.out rfl rfl Tryz.underlying53 rfl tyE HLu.out ?_)))
    | ((with_reducible refine is_alloc ?_);refine wl_alloc HF.out tyE ?_;intro b1 W1 HF1;replace HF:=hid HF1;clear HF1)
    | ((with_reducible refine is_store (T:=53) ?_);(first|(refine wl_store 0 HF.out tyE (vs:=us) rfl rfl rfl rfl HLu.out (Nat.le_of_eq (by rw [HLu.out];rfl)) (fun x hx=>(HF.out.rowBack HLs.out).one x hx) ?_;intro W1 HF1;rw [Fr.setL_all (by rw [HLu.out];rfl)]at HF1)|(refine wl_store 0 HF.out tyE (vs:=vs) rfl rfl rfl rfl HLv.out (Nat.le_of_eq (by rw [HLv.out];rfl)) (fun x hx=>(HF.out.rowBack HLr.out).one x hx) ?_;intro W1 HF1;rw [Fr.setL_all (by rw [HLv.out];rfl)]at HF1));replace HF:=hid HF1;clear HF1)
    | ((refine(HO1.out _ _ _ _ _ vs us HF.out (HF.out.rowLess.rowBack HLr.out) (HF.out.rowBack HLs.out)).mono ?_);rintro e W3 ⟨rfl,HF1⟩;replace HF:=hid HF1;clear HF1))
   go_roundg (rows.length - (j+1))
   case rel=>exact⟨j+1,rfl,hlt,by simp,hid HF.out.lessR.lessR.rowLess.rowLess⟩
   case measure=>omega
  ·have hki:¬(j:Int)<(rows.length:Int):=by omega
   go_wp2
   refine bodyPost_ret (v:=.bool true) (by simp [results,Tryz.results75,go_sem];try rfl) rfl ⟨rfl,HF.out⟩
theorem eqf_tySE:EqD oneV 1 76:=by
 intro Kp f hc rows hl hok w W g R Ds m i v u hd hu h
 obtain⟨p,c,rfl,h2,hpp⟩:=h.daSlice hd
 obtain⟨p2,c2,rfl,-,hpp2⟩:=h.daSlice hu
 have HF:=hid h
 have HD:=hid hd
 have HU:=hid hu
 have HP:=hid hpp
 have HP2:=hid hpp2
 have HOK:=hid hok
 have HLN:=hid hl
 have hl3:(rows.length:Int)≤9223372036854775807:=by omega
 clear h hd hu hpp hpp2 hok hl
 go_enter Tryz.func76,Tryz.ntmps76
 go_wp2
 go_loopg [17] rows.length (fun gm v8 wr=>∃ j:Nat,gm=rows.length - j∧j≤rows.length∧v8=.int .i64 j∧RowKit.Hid (Fr.Fm w g Kp wr R Ds))
 case atStart=>exact⟨0,by simp,by omega,rfl,HF⟩
 case round =>
  clear HF
  obtain⟨j,hg,hj,rfl,HF⟩:=hrel
  by_cases hlt:j<rows.length
  ·obtain⟨bx,off,rfl⟩:=HP.out (by omega)
   obtain⟨by0,off2,rfl⟩:=HP2.out (by omega)
   have hki:(j:Int)<(rows.length:Int):=by omega
   have hk0:(0:Int)≤(j:Int):=by omega
   have hk1:(j:Int)≤9223372036854775807:=by omega
   have hmem:rows[j]∈rows:=List.getElem_mem hlt
   have hi:rows[j]?=some rows[j]:=List.getElem?_eq_getElem hlt
   generalize rows[j]=ds at hmem hi
   have HO1:=hid (HOK.out _ hmem)
   have HLd:=hid (HLN.out _ hmem)
   have HM0:=hid trivial
   clear hmem
   obtain⟨d0,rfl⟩:∃ d0,ds=[d0]:=List.length_eq_one_iff.1 HLd.out
   go_wp2_with (first
    | ((with_reducible refine is_load (T:=47) ?_);(first|(clear HM0;refine Fr.wl_fieldAt m HF.out HD.out j 0 rfl (by first|rfl|omega) hi rfl Tryz.underlying47 rfl ?_;intro v0 HF1;have HU2:=hid (show((v0,d0)::Ds)[i+1]?=some _ by rw [List.getElem?_cons_succ];exact HU.out))|(refine Fr.wl_fieldAt (i+1) HF.out HU2.out j 0 rfl (by first|rfl|omega) hi rfl Tryz.underlying47 rfl ?_;intro u0 HF1));replace HF:=hid HF1;clear HF1)
    | ((refine(HO1.out _ _ _ _ _ [v0] [u0] HF.out (Da.row_cons (HF.out.da 1 _ _ rfl) (Da.row_nil _ _)) (Da.row_cons (HF.out.da 0 _ _ rfl) (Da.row_nil _ _))).mono ?_);rintro e W3 ⟨rfl,HF1⟩;replace HF:=hid HF1;clear HF1))
   go_roundg (rows.length - (j+1))
   case rel=>exact⟨j+1,rfl,hlt,by simp,hid HF.out.less.less⟩
   case measure=>omega
  ·have hki:¬(j:Int)<(rows.length:Int):=by omega
   go_wp2
   refine bodyPost_ret (v:=.bool true) (by simp [results,Tryz.results76,go_sem];try rfl) rfl ⟨rfl,HF.out⟩
theorem eqf_tyS:EqD rowV 6 42:=by
 intro Kp f hc rows hl hok w W g R Ds m i v u hd hu h
 obtain⟨p,c,rfl,h2,hpp⟩:=h.daSlice hd
 obtain⟨p2,c2,rfl,-,hpp2⟩:=h.daSlice hu
 have HF:=hid h
 have HD:=hid hd
 have HU:=hid hu
 have HP:=hid hpp
 have HP2:=hid hpp2
 have HOK:=hid hok
 have HLN:=hid hl
 have hl3:(rows.length:Int)≤9223372036854775807:=by omega
 clear h hd hu hpp hpp2 hok hl
 go_enter Tryz.func42,Tryz.ntmps42
 go_wp2
 go_loopg [17] rows.length (fun gm v8 wr=>∃ j:Nat,gm=rows.length - j∧j≤rows.length∧v8=.int .i64 j∧RowKit.Hid (Fr.Fm w g Kp wr R Ds))
 case atStart=>exact⟨0,by simp,by omega,rfl,HF⟩
 case round =>
  clear HF
  obtain⟨j,hg,hj,rfl,HF⟩:=hrel
  by_cases hlt:j<rows.length
  ·obtain⟨bx,off,rfl⟩:=HP.out (by omega)
   obtain⟨by0,off2,rfl⟩:=HP2.out (by omega)
   have hki:(j:Int)<(rows.length:Int):=by omega
   have hk0:(0:Int)≤(j:Int):=by omega
   have hk1:(j:Int)≤9223372036854775807:=by omega
   have hmem:rows[j]∈rows:=List.getElem_mem hlt
   have hi:rows[j]?=some rows[j]:=List.getElem?_eq_getElem hlt
   generalize rows[j]=ds at hmem hi
   have HO1:=hid (HOK.out _ hmem)
   have HLd:=hid (HLN.out _ hmem)
   have HM0:=hid trivial
   clear hmem
   go_wp2_with (first
    | ((with_reducible refine is_load (T:=51) ?_);(first|(clear HM0;(refine wl_loadAt m HF.out HD.out j rfl (by first|rfl|omega) hi Tryz.underlying51 rfl tyS rfl ?_;intro vs hrow;replace HF:=hid (HF.out.rowPlus hrow);have HLr:=hid hrow.1;have HLv:=hid (hrow.1.trans HLd.out);have HU2:=hid (Fr.zipAt hrow.1 HU.out);clear hrow))|(refine wl_loadAt (vs.length+i) HF.out HU2.out j rfl (by first|rfl|omega) hi Tryz.underlying51 rfl tyS rfl ?_;intro us hrow;replace HF:=hid (HF.out.rowPlus hrow);have HLs:=hid hrow.1;have HLu:=hid (hrow.1.trans HLd.out);clear hrow)|(refine wl_load 1 HF.out rfl rfl Tryz.underlying51 rfl tyS HLv.out ?_)|(refine wl_load 0 HF.out rfl rfl Tryz.underlying51 rfl tyS HLu.out ?_)))
    | ((with_reducible refine is_alloc ?_);refine wl_alloc HF.out tyS ?_;intro b1 W1 HF1;replace HF:=hid HF1;clear HF1)
    | ((with_reducible refine is_store (T:=51) ?_);(first|(refine wl_store 0 HF.out tyS (vs:=us) rfl rfl rfl rfl HLu.out (Nat.le_of_eq (by rw [HLu.out];rfl)) (fun x hx=>(HF.out.rowBack HLs.out).one x hx) ?_;intro W1 HF1;rw [Fr.setL_all (by rw [HLu.out];rfl)]at HF1)|(refine wl_store 0 HF.out tyS (vs:=vs) rfl rfl rfl rfl HLv.out (Nat.le_of_eq (by rw [HLv.out];rfl)) (fun x hx=>(HF.out.rowBack HLr.out).one x hx) ?_;intro W1 HF1;rw [Fr.setL_all (by rw [HLv.out];rfl)]at HF1));replace HF:=hid HF1;clear HF1)
    | ((refine(HO1.out _ _ _ _ _ vs us HF.out (HF.out.rowLess.rowBack HLr.out) (HF.out.rowBack HLs.out)).mono ?_);rintro e W3 ⟨rfl,HF1⟩;replace HF:=hid HF1;clear HF1))
   go_roundg (rows.length - (j+1))
   case rel=>exact⟨j+1,rfl,hlt,by simp,hid HF.out.lessR.lessR.rowLess.rowLess⟩
   case measure=>omega
  ·have hki:¬(j:Int)<(rows.length:Int):=by omega
   go_wp2
   refine bodyPost_ret (v:=.bool true) (by simp [results,Tryz.results42,go_sem];try rfl) rfl ⟨rfl,HF.out⟩
theorem eqf_tySS:EqD oneV 1 78:=by
 intro Kp f hc rows hl hok w W g R Ds m i v u hd hu h
 obtain⟨p,c,rfl,h2,hpp⟩:=h.daSlice hd
 obtain⟨p2,c2,rfl,-,hpp2⟩:=h.daSlice hu
 have HF:=hid h
 have HD:=hid hd
 have HU:=hid hu
 have HP:=hid hpp
 have HP2:=hid hpp2
 have HOK:=hid hok
 have HLN:=hid hl
 have hl3:(rows.length:Int)≤9223372036854775807:=by omega
 clear h hd hu hpp hpp2 hok hl
 go_enter Tryz.func78,Tryz.ntmps78
 go_wp2
 go_loopg [17] rows.length (fun gm v8 wr=>∃ j:Nat,gm=rows.length - j∧j≤rows.length∧v8=.int .i64 j∧RowKit.Hid (Fr.Fm w g Kp wr R Ds))
 case atStart=>exact⟨0,by simp,by omega,rfl,HF⟩
 case round =>
  clear HF
  obtain⟨j,hg,hj,rfl,HF⟩:=hrel
  by_cases hlt:j<rows.length
  ·obtain⟨bx,off,rfl⟩:=HP.out (by omega)
   obtain⟨by0,off2,rfl⟩:=HP2.out (by omega)
   have hki:(j:Int)<(rows.length:Int):=by omega
   have hk0:(0:Int)≤(j:Int):=by omega
   have hk1:(j:Int)≤9223372036854775807:=by omega
   have hmem:rows[j]∈rows:=List.getElem_mem hlt
   have hi:rows[j]?=some rows[j]:=List.getElem?_eq_getElem hlt
   generalize rows[j]=ds at hmem hi
   have HO1:=hid (HOK.out _ hmem)
   have HLd:=hid (HLN.out _ hmem)
   have HM0:=hid trivial
   clear hmem
   obtain⟨d0,rfl⟩:∃ d0,ds=[d0]:=List.length_eq_one_iff.1 HLd.out
   go_wp2_with (first
    | ((with_reducible refine is_load (T:=28) ?_);(first|(clear HM0;refine Fr.wl_fieldAt m HF.out HD.out j 0 rfl (by first|rfl|omega) hi rfl Tryz.underlying28 rfl ?_;intro v0 HF1;have HU2:=hid (show((v0,d0)::Ds)[i+1]?=some _ by rw [List.getElem?_cons_succ];exact HU.out))|(refine Fr.wl_fieldAt (i+1) HF.out HU2.out j 0 rfl (by first|rfl|omega) hi rfl Tryz.underlying28 rfl ?_;intro u0 HF1));replace HF:=hid HF1;clear HF1)
    | ((refine(HO1.out _ _ _ _ _ [v0] [u0] HF.out (Da.row_cons (HF.out.da 1 _ _ rfl) (Da.row_nil _ _)) (Da.row_cons (HF.out.da 0 _ _ rfl) (Da.row_nil _ _))).mono ?_);rintro e W3 ⟨rfl,HF1⟩;replace HF:=hid HF1;clear HF1))
   go_roundg (rows.length - (j+1))
   case rel=>exact⟨j+1,rfl,hlt,by simp,hid HF.out.less.less⟩
   case measure=>omega
  ·have hki:¬(j:Int)<(rows.length:Int):=by omega
   go_wp2
   refine bodyPost_ret (v:=.bool true) (by simp [results,Tryz.results78,go_sem];try rfl) rfl ⟨rfl,HF.out⟩
theorem eqf_tyT:EqD rowV 10 108:=by
 intro Kp f hc rows hl hok w W g R Ds m i v u hd hu h
 obtain⟨p,c,rfl,h2,hpp⟩:=h.daSlice hd
 obtain⟨p2,c2,rfl,-,hpp2⟩:=h.daSlice hu
 have HF:=hid h
 have HD:=hid hd
 have HU:=hid hu
 have HP:=hid hpp
 have HP2:=hid hpp2
 have HOK:=hid hok
 have HLN:=hid hl
 have hl3:(rows.length:Int)≤9223372036854775807:=by omega
 clear h hd hu hpp hpp2 hok hl
 go_enter Tryz.func108,Tryz.ntmps108
 go_wp2
 go_loopg [17] rows.length (fun gm v8 wr=>∃ j:Nat,gm=rows.length - j∧j≤rows.length∧v8=.int .i64 j∧RowKit.Hid (Fr.Fm w g Kp wr R Ds))
 case atStart=>exact⟨0,by simp,by omega,rfl,HF⟩
 case round =>
  clear HF
  obtain⟨j,hg,hj,rfl,HF⟩:=hrel
  by_cases hlt:j<rows.length
  ·obtain⟨bx,off,rfl⟩:=HP.out (by omega)
   obtain⟨by0,off2,rfl⟩:=HP2.out (by omega)
   have hki:(j:Int)<(rows.length:Int):=by omega
   have hk0:(0:Int)≤(j:Int):=by omega
   have hk1:(j:Int)≤9223372036854775807:=by omega
   have hmem:rows[j]∈rows:=List.getElem_mem hlt
   have hi:rows[j]?=some rows[j]:=List.getElem?_eq_getElem hlt
   generalize rows[j]=ds at hmem hi
   have HO1:=hid (HOK.out _ hmem)
   have HLd:=hid (HLN.out _ hmem)
   have HM0:=hid trivial
   clear hmem
   go_wp2_with (first
    | ((with_reducible refine is_load (T:=123) ?_);(first|(clear HM0;(refine wl_loadAt m HF.out HD.out j rfl (by first|rfl|omega) hi Tryz.underlying123 rfl tyT rfl ?_;intro vs hrow;replace HF:=hid (HF.out.rowPlus hrow);have HLr:=hid hrow.1;have HLv:=hid (hrow.1.trans HLd.out);have HU2:=hid (Fr.zipAt hrow.1 HU.out);clear hrow))|(refine wl_loadAt (vs.length+i) HF.out HU2.out j rfl (by first|rfl|omega) hi Tryz.underlying123 rfl tyT rfl ?_;intro us hrow;replace HF:=hid (HF.out.rowPlus hrow);have HLs:=hid hrow.1;have HLu:=hid (hrow.1.trans HLd.out);clear hrow)|(refine wl_load 1 HF.out rfl rfl Tryz.underlying123 rfl tyT HLv.out ?_)|(refine wl_load 0 HF.out rfl rfl Tryz.underlying123 rfl tyT HLu.out ?_)))
    | ((with_reducible refine is_alloc ?_);refine wl_alloc HF.out tyT ?_;intro b1 W1 HF1;replace HF:=hid HF1;clear HF1)
    | ((with_reducible refine is_store (T:=123) ?_);(first|(refine wl_store 0 HF.out tyT (vs:=us) rfl rfl rfl rfl HLu.out (Nat.le_of_eq (by rw [HLu.out];rfl)) (fun x hx=>(HF.out.rowBack HLs.out).one x hx) ?_;intro W1 HF1;rw [Fr.setL_all (by rw [HLu.out];rfl)]at HF1)|(refine wl_store 0 HF.out tyT (vs:=vs) rfl rfl rfl rfl HLv.out (Nat.le_of_eq (by rw [HLv.out];rfl)) (fun x hx=>(HF.out.rowBack HLr.out).one x hx) ?_;intro W1 HF1;rw [Fr.setL_all (by rw [HLv.out];rfl)]at HF1));replace HF:=hid HF1;clear HF1)
    | ((refine(HO1.out _ _ _ _ _ vs us HF.out (HF.out.rowLess.rowBack HLr.out) (HF.out.rowBack HLs.out)).mono ?_);rintro e W3 ⟨rfl,HF1⟩;replace HF:=hid HF1;clear HF1))
   go_roundg (rows.length - (j+1))
   case rel=>exact⟨j+1,rfl,hlt,by simp,hid HF.out.lessR.lessR.rowLess.rowLess⟩
   case measure=>omega
  ·have hki:¬(j:Int)<(rows.length:Int):=by omega
   go_wp2
   refine bodyPost_ret (v:=.bool true) (by simp [results,Tryz.results108,go_sem];try rfl) rfl ⟨rfl,HF.out⟩
theorem eqf_tyF:EqD rowV 13 109:=by
 intro Kp f hc rows hl hok w W g R Ds m i v u hd hu h
 obtain⟨p,c,rfl,h2,hpp⟩:=h.daSlice hd
 obtain⟨p2,c2,rfl,-,hpp2⟩:=h.daSlice hu
 have HF:=hid h
 have HD:=hid hd
 have HU:=hid hu
 have HP:=hid hpp
 have HP2:=hid hpp2
 have HOK:=hid hok
 have HLN:=hid hl
 have hl3:(rows.length:Int)≤9223372036854775807:=by omega
 clear h hd hu hpp hpp2 hok hl
 go_enter Tryz.func109,Tryz.ntmps109
 go_wp2
 go_loopg [17] rows.length (fun gm v8 wr=>∃ j:Nat,gm=rows.length - j∧j≤rows.length∧v8=.int .i64 j∧RowKit.Hid (Fr.Fm w g Kp wr R Ds))
 case atStart=>exact⟨0,by simp,by omega,rfl,HF⟩
 case round =>
  clear HF
  obtain⟨j,hg,hj,rfl,HF⟩:=hrel
  by_cases hlt:j<rows.length
  ·obtain⟨bx,off,rfl⟩:=HP.out (by omega)
   obtain⟨by0,off2,rfl⟩:=HP2.out (by omega)
   have hki:(j:Int)<(rows.length:Int):=by omega
   have hk0:(0:Int)≤(j:Int):=by omega
   have hk1:(j:Int)≤9223372036854775807:=by omega
   have hmem:rows[j]∈rows:=List.getElem_mem hlt
   have hi:rows[j]?=some rows[j]:=List.getElem?_eq_getElem hlt
   generalize rows[j]=ds at hmem hi
   have HO1:=hid (HOK.out _ hmem)
   have HLd:=hid (HLN.out _ hmem)
   have HM0:=hid trivial
   clear hmem
   go_wp2_with (first
    | ((with_reducible refine is_load (T:=129) ?_);(first|(clear HM0;(refine wl_loadAt m HF.out HD.out j rfl (by first|rfl|omega) hi Tryz.underlying129 rfl tyF rfl ?_;intro vs hrow;replace HF:=hid (HF.out.rowPlus hrow);have HLr:=hid hrow.1;have HLv:=hid (hrow.1.trans HLd.out);have HU2:=hid (Fr.zipAt hrow.1 HU.out);clear hrow))|(refine wl_loadAt (vs.length+i) HF.out HU2.out j rfl (by first|rfl|omega) hi Tryz.underlying129 rfl tyF rfl ?_;intro us hrow;replace HF:=hid (HF.out.rowPlus hrow);have HLs:=hid hrow.1;have HLu:=hid (hrow.1.trans HLd.out);clear hrow)|(refine wl_load 1 HF.out rfl rfl Tryz.underlying129 rfl tyF HLv.out ?_)|(refine wl_load 0 HF.out rfl rfl Tryz.underlying129 rfl tyF HLu.out ?_)))
    | ((with_reducible refine is_alloc ?_);refine wl_alloc HF.out tyF ?_;intro b1 W1 HF1;replace HF:=hid HF1;clear HF1)
    | ((with_reducible refine is_store (T:=129) ?_);(first|(refine wl_store 0 HF.out tyF (vs:=us) rfl rfl rfl rfl HLu.out (Nat.le_of_eq (by rw [HLu.out];rfl)) (fun x hx=>(HF.out.rowBack HLs.out).one x hx) ?_;intro W1 HF1;rw [Fr.setL_all (by rw [HLu.out];rfl)]at HF1)|(refine wl_store 0 HF.out tyF (vs:=vs) rfl rfl rfl rfl HLv.out (Nat.le_of_eq (by rw [HLv.out];rfl)) (fun x hx=>(HF.out.rowBack HLr.out).one x hx) ?_;intro W1 HF1;rw [Fr.setL_all (by rw [HLv.out];rfl)]at HF1));replace HF:=hid HF1;clear HF1)
    | ((refine(HO1.out _ _ _ _ _ vs us HF.out (HF.out.rowLess.rowBack HLr.out) (HF.out.rowBack HLs.out)).mono ?_);rintro e W3 ⟨rfl,HF1⟩;replace HF:=hid HF1;clear HF1))
   go_roundg (rows.length - (j+1))
   case rel=>exact⟨j+1,rfl,hlt,by simp,hid HF.out.lessR.lessR.rowLess.rowLess⟩
   case measure=>omega
  ·have hki:¬(j:Int)<(rows.length:Int):=by omega
   go_wp2
   refine bodyPost_ret (v:=.bool true) (by simp [results,Tryz.results109,go_sem];try rfl) rfl ⟨rfl,HF.out⟩
theorem eqf_tyPa:EqD rowV 13 111:=by
 intro Kp f hc rows hl hok w W g R Ds m i v u hd hu h
 obtain⟨p,c,rfl,h2,hpp⟩:=h.daSlice hd
 obtain⟨p2,c2,rfl,-,hpp2⟩:=h.daSlice hu
 have HF:=hid h
 have HD:=hid hd
 have HU:=hid hu
 have HP:=hid hpp
 have HP2:=hid hpp2
 have HOK:=hid hok
 have HLN:=hid hl
 have hl3:(rows.length:Int)≤9223372036854775807:=by omega
 clear h hd hu hpp hpp2 hok hl
 go_enter Tryz.func111,Tryz.ntmps111
 go_wp2
 go_loopg [17] rows.length (fun gm v8 wr=>∃ j:Nat,gm=rows.length - j∧j≤rows.length∧v8=.int .i64 j∧RowKit.Hid (Fr.Fm w g Kp wr R Ds))
 case atStart=>exact⟨0,by simp,by omega,rfl,HF⟩
 case round =>
  clear HF
  obtain⟨j,hg,hj,rfl,HF⟩:=hrel
  by_cases hlt:j<rows.length
  ·obtain⟨bx,off,rfl⟩:=HP.out (by omega)
   obtain⟨by0,off2,rfl⟩:=HP2.out (by omega)
   have hki:(j:Int)<(rows.length:Int):=by omega
   have hk0:(0:Int)≤(j:Int):=by omega
   have hk1:(j:Int)≤9223372036854775807:=by omega
   have hmem:rows[j]∈rows:=List.getElem_mem hlt
   have hi:rows[j]?=some rows[j]:=List.getElem?_eq_getElem hlt
   generalize rows[j]=ds at hmem hi
   have HO1:=hid (HOK.out _ hmem)
   have HLd:=hid (HLN.out _ hmem)
   have HM0:=hid trivial
   clear hmem
   go_wp2_with (first
    | ((with_reducible refine is_load (T:=128) ?_);(first|(clear HM0;(refine wl_loadAt m HF.out HD.out j rfl (by first|rfl|omega) hi Tryz.underlying128 rfl tyPa rfl ?_;intro vs hrow;replace HF:=hid (HF.out.rowPlus hrow);have HLr:=hid hrow.1;have HLv:=hid (hrow.1.trans HLd.out);have HU2:=hid (Fr.zipAt hrow.1 HU.out);clear hrow))|(refine wl_loadAt (vs.length+i) HF.out HU2.out j rfl (by first|rfl|omega) hi Tryz.underlying128 rfl tyPa rfl ?_;intro us hrow;replace HF:=hid (HF.out.rowPlus hrow);have HLs:=hid hrow.1;have HLu:=hid (hrow.1.trans HLd.out);clear hrow)|(refine wl_load 1 HF.out rfl rfl Tryz.underlying128 rfl tyPa HLv.out ?_)|(refine wl_load 0 HF.out rfl rfl Tryz.underlying128 rfl tyPa HLu.out ?_)))
    | ((with_reducible refine is_alloc ?_);refine wl_alloc HF.out tyPa ?_;intro b1 W1 HF1;replace HF:=hid HF1;clear HF1)
    | ((with_reducible refine is_store (T:=128) ?_);(first|(refine wl_store 0 HF.out tyPa (vs:=us) rfl rfl rfl rfl HLu.out (Nat.le_of_eq (by rw [HLu.out];rfl)) (fun x hx=>(HF.out.rowBack HLs.out).one x hx) ?_;intro W1 HF1;rw [Fr.setL_all (by rw [HLu.out];rfl)]at HF1)|(refine wl_store 0 HF.out tyPa (vs:=vs) rfl rfl rfl rfl HLv.out (Nat.le_of_eq (by rw [HLv.out];rfl)) (fun x hx=>(HF.out.rowBack HLr.out).one x hx) ?_;intro W1 HF1;rw [Fr.setL_all (by rw [HLv.out];rfl)]at HF1));replace HF:=hid HF1;clear HF1)
    | ((refine(HO1.out _ _ _ _ _ vs us HF.out (HF.out.rowLess.rowBack HLr.out) (HF.out.rowBack HLs.out)).mono ?_);rintro e W3 ⟨rfl,HF1⟩;replace HF:=hid HF1;clear HF1))
   go_roundg (rows.length - (j+1))
   case rel=>exact⟨j+1,rfl,hlt,by simp,hid HF.out.lessR.lessR.rowLess.rowLess⟩
   case measure=>omega
  ·have hki:¬(j:Int)<(rows.length:Int):=by omega
   go_wp2
   refine bodyPost_ret (v:=.bool true) (by simp [results,Tryz.results111,go_sem];try rfl) rfl ⟨rfl,HF.out⟩
theorem eqf_tyC:EqD rowV 9 66:=by
 intro Kp f hc rows hl hok w W g R Ds m i v u hd hu h
 obtain⟨p,c,rfl,h2,hpp⟩:=h.daSlice hd
 obtain⟨p2,c2,rfl,-,hpp2⟩:=h.daSlice hu
 have HF:=hid h
 have HD:=hid hd
 have HU:=hid hu
 have HP:=hid hpp
 have HP2:=hid hpp2
 have HOK:=hid hok
 have HLN:=hid hl
 have hl3:(rows.length:Int)≤9223372036854775807:=by omega
 clear h hd hu hpp hpp2 hok hl
 go_enter Tryz.func66,Tryz.ntmps66
 go_wp2
 go_loopg [17] rows.length (fun gm v8 wr=>∃ j:Nat,gm=rows.length - j∧j≤rows.length∧v8=.int .i64 j∧RowKit.Hid (Fr.Fm w g Kp wr R Ds))
 case atStart=>exact⟨0,by simp,by omega,rfl,HF⟩
 case round =>
  clear HF
  obtain⟨j,hg,hj,rfl,HF⟩:=hrel
  by_cases hlt:j<rows.length
  ·obtain⟨bx,off,rfl⟩:=HP.out (by omega)
   obtain⟨by0,off2,rfl⟩:=HP2.out (by omega)
   have hki:(j:Int)<(rows.length:Int):=by omega
   have hk0:(0:Int)≤(j:Int):=by omega
   have hk1:(j:Int)≤9223372036854775807:=by omega
   have hmem:rows[j]∈rows:=List.getElem_mem hlt
   have hi:rows[j]?=some rows[j]:=List.getElem?_eq_getElem hlt
   generalize rows[j]=ds at hmem hi
   have HO1:=hid (HOK.out _ hmem)
   have HLd:=hid (HLN.out _ hmem)
   have HM0:=hid trivial
   clear hmem
   go_wp2_with (first
    | ((with_reducible refine is_load (T:=120) ?_);(first|(clear HM0;(refine wl_loadAt m HF.out HD.out j rfl (by first|rfl|omega) hi Tryz.underlying120 rfl tyC rfl ?_;intro vs hrow;replace HF:=hid (HF.out.rowPlus hrow);have HLr:=hid hrow.1;have HLv:=hid (hrow.1.trans HLd.out);have HU2:=hid (Fr.zipAt hrow.1 HU.out);clear hrow))|(refine wl_loadAt (vs.length+i) HF.out HU2.out j rfl (by first|rfl|omega) hi Tryz.underlying120 rfl tyC rfl ?_;intro us hrow;replace HF:=hid (HF.out.rowPlus hrow);have HLs:=hid hrow.1;have HLu:=hid (hrow.1.trans HLd.out);clear hrow)|(refine wl_load 1 HF.out rfl rfl Tryz.underlying120 rfl tyC HLv.out ?_)|(refine wl_load 0 HF.out rfl rfl Tryz.underlying120 rfl tyC HLu.out ?_)))
    | ((with_reducible refine is_alloc ?_);refine wl_alloc HF.out tyC ?_;intro b1 W1 HF1;replace HF:=hid HF1;clear HF1)
    | ((with_reducible refine is_store (T:=120) ?_);(first|(refine wl_store 0 HF.out tyC (vs:=us) rfl rfl rfl rfl HLu.out (Nat.le_of_eq (by rw [HLu.out];rfl)) (fun x hx=>(HF.out.rowBack HLs.out).one x hx) ?_;intro W1 HF1;rw [Fr.setL_all (by rw [HLu.out];rfl)]at HF1)|(refine wl_store 0 HF.out tyC (vs:=vs) rfl rfl rfl rfl HLv.out (Nat.le_of_eq (by rw [HLv.out];rfl)) (fun x hx=>(HF.out.rowBack HLr.out).one x hx) ?_;intro W1 HF1;rw [Fr.setL_all (by rw [HLv.out];rfl)]at HF1));replace HF:=hid HF1;clear HF1)
    | ((refine(HO1.out _ _ _ _ _ vs us HF.out (HF.out.rowLess.rowBack HLr.out) (HF.out.rowBack HLs.out)).mono ?_);rintro e W3 ⟨rfl,HF1⟩;replace HF:=hid HF1;clear HF1))
   go_roundg (rows.length - (j+1))
   case rel=>exact⟨j+1,rfl,hlt,by simp,hid HF.out.lessR.lessR.rowLess.rowLess⟩
   case measure=>omega
  ·have hki:¬(j:Int)<(rows.length:Int):=by omega
   go_wp2
   refine bodyPost_ret (v:=.bool true) (by simp [results,Tryz.results66,go_sem];try rfl) rfl ⟨rfl,HF.out⟩
theorem eqf_tyTy:EqD rowV 13 69:=by
 intro Kp f hc rows hl hok w W g R Ds m i v u hd hu h
 obtain⟨p,c,rfl,h2,hpp⟩:=h.daSlice hd
 obtain⟨p2,c2,rfl,-,hpp2⟩:=h.daSlice hu
 have HF:=hid h
 have HD:=hid hd
 have HU:=hid hu
 have HP:=hid hpp
 have HP2:=hid hpp2
 have HOK:=hid hok
 have HLN:=hid hl
 have hl3:(rows.length:Int)≤9223372036854775807:=by omega
 clear h hd hu hpp hpp2 hok hl
 go_enter Tryz.func69,Tryz.ntmps69
 go_wp2
 go_loopg [17] rows.length (fun gm v8 wr=>∃ j:Nat,gm=rows.length - j∧j≤rows.length∧v8=.int .i64 j∧RowKit.Hid (Fr.Fm w g Kp wr R Ds))
 case atStart=>exact⟨0,by simp,by omega,rfl,HF⟩
 case round =>
  clear HF
  obtain⟨j,hg,hj,rfl,HF⟩:=hrel
  by_cases hlt:j<rows.length
  ·obtain⟨bx,off,rfl⟩:=HP.out (by omega)
   obtain⟨by0,off2,rfl⟩:=HP2.out (by omega)
   have hki:(j:Int)<(rows.length:Int):=by omega
   have hk0:(0:Int)≤(j:Int):=by omega
   have hk1:(j:Int)≤9223372036854775807:=by omega
   have hmem:rows[j]∈rows:=List.getElem_mem hlt
   have hi:rows[j]?=some rows[j]:=List.getElem?_eq_getElem hlt
   generalize rows[j]=ds at hmem hi
   have HO1:=hid (HOK.out _ hmem)
   have HLd:=hid (HLN.out _ hmem)
   have HM0:=hid trivial
   clear hmem
   go_wp2_with (first
    | ((with_reducible refine is_load (T:=125) ?_);(first|(clear HM0;(refine wl_loadAt m HF.out HD.out j rfl (by first|rfl|omega) hi Tryz.underlying125 rfl tyTy rfl ?_;intro vs hrow;replace HF:=hid (HF.out.rowPlus hrow);have HLr:=hid hrow.1;have HLv:=hid (hrow.1.trans HLd.out);have HU2:=hid (Fr.zipAt hrow.1 HU.out);clear hrow))|(refine wl_loadAt (vs.length+i) HF.out HU2.out j rfl (by first|rfl|omega) hi Tryz.underlying125 rfl tyTy rfl ?_;intro us hrow;replace HF:=hid (HF.out.rowPlus hrow);have HLs:=hid hrow.1;have HLu:=hid (hrow.1.trans HLd.out);clear hrow)|(refine wl_load 1 HF.out rfl rfl Tryz.underlying125 rfl tyTy HLv.out ?_)|(refine wl_load 0 HF.out rfl rfl Tryz.underlying125 rfl tyTy HLu.out ?_)))
    | ((with_reducible refine is_alloc ?_);refine wl_alloc HF.out tyTy ?_;intro b1 W1 HF1;replace HF:=hid HF1;clear HF1)
    | ((with_reducible refine is_store (T:=125) ?_);(first|(refine wl_store 0 HF.out tyTy (vs:=us) rfl rfl rfl rfl HLu.out (Nat.le_of_eq (by rw [HLu.out];rfl)) (fun x hx=>(HF.out.rowBack HLs.out).one x hx) ?_;intro W1 HF1;rw [Fr.setL_all (by rw [HLu.out];rfl)]at HF1)|(refine wl_store 0 HF.out tyTy (vs:=vs) rfl rfl rfl rfl HLv.out (Nat.le_of_eq (by rw [HLv.out];rfl)) (fun x hx=>(HF.out.rowBack HLr.out).one x hx) ?_;intro W1 HF1;rw [Fr.setL_all (by rw [HLv.out];rfl)]at HF1));replace HF:=hid HF1;clear HF1)
    | ((refine(HO1.out _ _ _ _ _ vs us HF.out (HF.out.rowLess.rowBack HLr.out) (HF.out.rowBack HLs.out)).mono ?_);rintro e W3 ⟨rfl,HF1⟩;replace HF:=hid HF1;clear HF1))
   go_roundg (rows.length - (j+1))
   case rel=>exact⟨j+1,rfl,hlt,by simp,hid HF.out.lessR.lessR.rowLess.rowLess⟩
   case measure=>omega
  ·have hki:¬(j:Int)<(rows.length:Int):=by omega
   go_wp2
   refine bodyPost_ret (v:=.bool true) (by simp [results,Tryz.results69,go_sem];try rfl) rfl ⟨rfl,HF.out⟩
theorem eqf_tyV:EqD rowV 13 72:=by
 intro Kp f hc rows hl hok w W g R Ds m i v u hd hu h
 obtain⟨p,c,rfl,h2,hpp⟩:=h.daSlice hd
 obtain⟨p2,c2,rfl,-,hpp2⟩:=h.daSlice hu
 have HF:=hid h
 have HD:=hid hd
 have HU:=hid hu
 have HP:=hid hpp
 have HP2:=hid hpp2
 have HOK:=hid hok
 have HLN:=hid hl
 have hl3:(rows.length:Int)≤9223372036854775807:=by omega
 clear h hd hu hpp hpp2 hok hl
 go_enter Tryz.func72,Tryz.ntmps72
 go_wp2
 go_loopg [17] rows.length (fun gm v8 wr=>∃ j:Nat,gm=rows.length - j∧j≤rows.length∧v8=.int .i64 j∧RowKit.Hid (Fr.Fm w g Kp wr R Ds))
 case atStart=>exact⟨0,by simp,by omega,rfl,HF⟩
 case round =>
  clear HF
  obtain⟨j,hg,hj,rfl,HF⟩:=hrel
  by_cases hlt:j<rows.length
  ·obtain⟨bx,off,rfl⟩:=HP.out (by omega)
   obtain⟨by0,off2,rfl⟩:=HP2.out (by omega)
   have hki:(j:Int)<(rows.length:Int):=by omega
   have hk0:(0:Int)≤(j:Int):=by omega
   have hk1:(j:Int)≤9223372036854775807:=by omega
   have hmem:rows[j]∈rows:=List.getElem_mem hlt
   have hi:rows[j]?=some rows[j]:=List.getElem?_eq_getElem hlt
   generalize rows[j]=ds at hmem hi
   have HO1:=hid (HOK.out _ hmem)
   have HLd:=hid (HLN.out _ hmem)
   have HM0:=hid trivial
   clear hmem
   go_wp2_with (first
    | ((with_reducible refine is_load (T:=126) ?_);(first|(clear HM0;(refine wl_loadAt m HF.out HD.out j rfl (by first|rfl|omega) hi Tryz.underlying126 rfl tyV rfl ?_;intro vs hrow;replace HF:=hid (HF.out.rowPlus hrow);have HLr:=hid hrow.1;have HLv:=hid (hrow.1.trans HLd.out);have HU2:=hid (Fr.zipAt hrow.1 HU.out);clear hrow))|(refine wl_loadAt (vs.length+i) HF.out HU2.out j rfl (by first|rfl|omega) hi Tryz.underlying126 rfl tyV rfl ?_;intro us hrow;replace HF:=hid (HF.out.rowPlus hrow);have HLs:=hid hrow.1;have HLu:=hid (hrow.1.trans HLd.out);clear hrow)|(refine wl_load 1 HF.out rfl rfl Tryz.underlying126 rfl tyV HLv.out ?_)|(refine wl_load 0 HF.out rfl rfl Tryz.underlying126 rfl tyV HLu.out ?_)))
    | ((with_reducible refine is_alloc ?_);refine wl_alloc HF.out tyV ?_;intro b1 W1 HF1;replace HF:=hid HF1;clear HF1)
    | ((with_reducible refine is_store (T:=126) ?_);(first|(refine wl_store 0 HF.out tyV (vs:=us) rfl rfl rfl rfl HLu.out (Nat.le_of_eq (by rw [HLu.out];rfl)) (fun x hx=>(HF.out.rowBack HLs.out).one x hx) ?_;intro W1 HF1;rw [Fr.setL_all (by rw [HLu.out];rfl)]at HF1)|(refine wl_store 0 HF.out tyV (vs:=vs) rfl rfl rfl rfl HLv.out (Nat.le_of_eq (by rw [HLv.out];rfl)) (fun x hx=>(HF.out.rowBack HLr.out).one x hx) ?_;intro W1 HF1;rw [Fr.setL_all (by rw [HLv.out];rfl)]at HF1));replace HF:=hid HF1;clear HF1)
    | ((refine(HO1.out _ _ _ _ _ vs us HF.out (HF.out.rowLess.rowBack HLr.out) (HF.out.rowBack HLs.out)).mono ?_);rintro e W3 ⟨rfl,HF1⟩;replace HF:=hid HF1;clear HF1))
   go_roundg (rows.length - (j+1))
   case rel=>exact⟨j+1,rfl,hlt,by simp,hid HF.out.lessR.lessR.rowLess.rowLess⟩
   case measure=>omega
  ·have hki:¬(j:Int)<(rows.length:Int):=by omega
   go_wp2
   refine bodyPost_ret (v:=.bool true) (by simp [results,Tryz.results72,go_sem];try rfl) rfl ⟨rfl,HF.out⟩
theorem eqf_tyI:EqD rowV 3 37:=by
 intro Kp f hc rows hl hok w W g R Ds m i v u hd hu h
 obtain⟨p,c,rfl,h2,hpp⟩:=h.daSlice hd
 obtain⟨p2,c2,rfl,-,hpp2⟩:=h.daSlice hu
 have HF:=hid h
 have HD:=hid hd
 have HU:=hid hu
 have HP:=hid hpp
 have HP2:=hid hpp2
 have HOK:=hid hok
 have HLN:=hid hl
 have hl3:(rows.length:Int)≤9223372036854775807:=by omega
 clear h hd hu hpp hpp2 hok hl
 go_enter Tryz.func37,Tryz.ntmps37
 go_wp2
 go_loopg [17] rows.length (fun gm v8 wr=>∃ j:Nat,gm=rows.length - j∧j≤rows.length∧v8=.int .i64 j∧RowKit.Hid (Fr.Fm w g Kp wr R Ds))
 case atStart=>exact⟨0,by simp,by omega,rfl,HF⟩
 case round =>
  clear HF
  obtain⟨j,hg,hj,rfl,HF⟩:=hrel
  by_cases hlt:j<rows.length
  ·obtain⟨bx,off,rfl⟩:=HP.out (by omega)
   obtain⟨by0,off2,rfl⟩:=HP2.out (by omega)
   have hki:(j:Int)<(rows.length:Int):=by omega
   have hk0:(0:Int)≤(j:Int):=by omega
   have hk1:(j:Int)≤9223372036854775807:=by omega
   have hmem:rows[j]∈rows:=List.getElem_mem hlt
   have hi:rows[j]?=some rows[j]:=List.getElem?_eq_getElem hlt
   generalize rows[j]=ds at hmem hi
   have HO1:=hid (HOK.out _ hmem)
   have HLd:=hid (HLN.out _ hmem)
   have HM0:=hid trivial
   clear hmem
   go_wp2_with (first
    | ((with_reducible refine is_load (T:=63) ?_);(first|(clear HM0;(refine wl_loadAt m HF.out HD.out j rfl (by first|rfl|omega) hi Tryz.underlying63 rfl tyI rfl ?_;intro vs hrow;replace HF:=hid (HF.out.rowPlus hrow);have HLr:=hid hrow.1;have HLv:=hid (hrow.1.trans HLd.out);have HU2:=hid (Fr.zipAt hrow.1 HU.out);clear hrow))|(refine wl_loadAt (vs.length+i) HF.out HU2.out j rfl (by first|rfl|omega) hi Tryz.underlying63 rfl tyI rfl ?_;intro us hrow;replace HF:=hid (HF.out.rowPlus hrow);have HLs:=hid hrow.1;have HLu:=hid (hrow.1.trans HLd.out);clear hrow)|(refine wl_load 1 HF.out rfl rfl Tryz.underlying63 rfl tyI HLv.out ?_)|(refine wl_load 0 HF.out rfl rfl Tryz.underlying63 rfl tyI HLu.out ?_)))
    | ((with_reducible refine is_alloc ?_);refine wl_alloc HF.out tyI ?_;intro b1 W1 HF1;replace HF:=hid HF1;clear HF1)
    | ((with_reducible refine is_store (T:=63) ?_);(first|(refine wl_store 0 HF.out tyI (vs:=us) rfl rfl rfl rfl HLu.out (Nat.le_of_eq (by rw [HLu.out];rfl)) (fun x hx=>(HF.out.rowBack HLs.out).one x hx) ?_;intro W1 HF1;rw [Fr.setL_all (by rw [HLu.out];rfl)]at HF1)|(refine wl_store 0 HF.out tyI (vs:=vs) rfl rfl rfl rfl HLv.out (Nat.le_of_eq (by rw [HLv.out];rfl)) (fun x hx=>(HF.out.rowBack HLr.out).one x hx) ?_;intro W1 HF1;rw [Fr.setL_all (by rw [HLv.out];rfl)]at HF1));replace HF:=hid HF1;clear HF1)
    | ((refine(HO1.out _ _ _ _ _ vs us HF.out (HF.out.rowLess.rowBack HLr.out) (HF.out.rowBack HLs.out)).mono ?_);rintro e W3 ⟨rfl,HF1⟩;replace HF:=hid HF1;clear HF1))
   go_roundg (rows.length - (j+1))
   case rel=>exact⟨j+1,rfl,hlt,by simp,hid HF.out.lessR.lessR.rowLess.rowLess⟩
   case measure=>omega
  ·have hki:¬(j:Int)<(rows.length:Int):=by omega
   go_wp2
   refine bodyPost_ret (v:=.bool true) (by simp [results,Tryz.results37,go_sem];try rfl) rfl ⟨rfl,HF.out⟩
theorem eqf_tyPr:EqD rowV 10 40:=by
 intro Kp f hc rows hl hok w W g R Ds m i v u hd hu h
 obtain⟨p,c,rfl,h2,hpp⟩:=h.daSlice hd
 obtain⟨p2,c2,rfl,-,hpp2⟩:=h.daSlice hu
 have HF:=hid h
 have HD:=hid hd
 have HU:=hid hu
 have HP:=hid hpp
 have HP2:=hid hpp2
 have HOK:=hid hok
 have HLN:=hid hl
 have hl3:(rows.length:Int)≤9223372036854775807:=by omega
 clear h hd hu hpp hpp2 hok hl
 go_enter Tryz.func40,Tryz.ntmps40
 go_wp2
 go_loopg [17] rows.length (fun gm v8 wr=>∃ j:Nat,gm=rows.length - j∧j≤rows.length∧v8=.int .i64 j∧RowKit.Hid (Fr.Fm w g Kp wr R Ds))
 case atStart=>exact⟨0,by simp,by omega,rfl,HF⟩
 case round =>
  clear HF
  obtain⟨j,hg,hj,rfl,HF⟩:=hrel
  by_cases hlt:j<rows.length
  ·obtain⟨bx,off,rfl⟩:=HP.out (by omega)
   obtain⟨by0,off2,rfl⟩:=HP2.out (by omega)
   have hki:(j:Int)<(rows.length:Int):=by omega
   have hk0:(0:Int)≤(j:Int):=by omega
   have hk1:(j:Int)≤9223372036854775807:=by omega
   have hmem:rows[j]∈rows:=List.getElem_mem hlt
   have hi:rows[j]?=some rows[j]:=List.getElem?_eq_getElem hlt
   generalize rows[j]=ds at hmem hi
   have HO1:=hid (HOK.out _ hmem)
   have HLd:=hid (HLN.out _ hmem)
   have HM0:=hid trivial
   clear hmem
   go_wp2_with (first
    | ((with_reducible refine is_load (T:=67) ?_);(first|(clear HM0;(refine wl_loadAt m HF.out HD.out j rfl (by first|rfl|omega) hi Tryz.underlying67 rfl tyPr rfl ?_;intro vs hrow;replace HF:=hid (HF.out.rowPlus hrow);have HLr:=hid hrow.1;have HLv:=hid (hrow.1.trans HLd.out);have HU2:=hid (Fr.zipAt hrow.1 HU.out);clear hrow))|(refine wl_loadAt (vs.length+i) HF.out HU2.out j rfl (by first|rfl|omega) hi Tryz.underlying67 rfl tyPr rfl ?_;intro us hrow;replace HF:=hid (HF.out.rowPlus hrow);have HLs:=hid hrow.1;have HLu:=hid (hrow.1.trans HLd.out);clear hrow)|(refine wl_load 1 HF.out rfl rfl Tryz.underlying67 rfl tyPr HLv.out ?_)|(refine wl_load 0 HF.out rfl rfl Tryz.underlying67 rfl tyPr HLu.out ?_)))
    | ((with_reducible refine is_alloc ?_);refine wl_alloc HF.out tyPr ?_;intro b1 W1 HF1;replace HF:=hid HF1;clear HF1)
    | ((with_reducible refine is_store (T:=67) ?_);(first|(refine wl_store 0 HF.out tyPr (vs:=us) rfl rfl rfl rfl HLu.out (Nat.le_of_eq (by rw [HLu.out];rfl)) (fun x hx=>(HF.out.rowBack HLs.out).one x hx) ?_;intro W1 HF1;rw [Fr.setL_all (by rw [HLu.out];rfl)]at HF1)|(refine wl_store 0 HF.out tyPr (vs:=vs) rfl rfl rfl rfl HLv.out (Nat.le_of_eq (by rw [HLv.out];rfl)) (fun x hx=>(HF.out.rowBack HLr.out).one x hx) ?_;intro W1 HF1;rw [Fr.setL_all (by rw [HLv.out];rfl)]at HF1));replace HF:=hid HF1;clear HF1)
    | ((refine(HO1.out _ _ _ _ _ vs us HF.out (HF.out.rowLess.rowBack HLr.out) (HF.out.rowBack HLs.out)).mono ?_);rintro e W3 ⟨rfl,HF1⟩;replace HF:=hid HF1;clear HF1))
   go_roundg (rows.length - (j+1))
   case rel=>exact⟨j+1,rfl,hlt,by simp,hid HF.out.lessR.lessR.rowLess.rowLess⟩
   case measure=>omega
  ·have hki:¬(j:Int)<(rows.length:Int):=by omega
   go_wp2
   refine bodyPost_ret (v:=.bool true) (by simp [results,Tryz.results40,go_sem];try rfl) rfl ⟨rfl,HF.out⟩
theorem rz_sameConsts{w W:World}{g:Option Nat}{Kp:World→Prop}{R:List Fr.RI}{Ds:List (Value × Da.D)}(h:Fr.Fm w g Kp W R Ds):Calls Tryz.prog 20 #[.slice none 0 0,.slice none 0 0,.bool true] W fun e W'=>e=.returned (.bool true)∧Fr.Fm w g Kp W' R Ds:=by
 have HF:=hid h
 clear h
 go_enter Tryz.func20,Tryz.ntmps20
 go_wp2
 go_loopg [7] 0 (fun gm v7 wr=>v7=.int .i64 0∧RowKit.Hid (Fr.Fm w g Kp wr R Ds))
 case atStart=>exact⟨rfl,HF⟩
 case round =>
  clear HF
  obtain⟨rfl,HF⟩:=hrel
  go_wp2
  refine bodyPost_ret (v:=.bool true) (by simp [results,Tryz.results20,go_sem];try rfl) rfl ⟨rfl,HF.out⟩
theorem rz_sameTypeDecls{w W:World}{g:Option Nat}{Kp:World→Prop}{R:List Fr.RI}{Ds:List (Value × Da.D)}(h:Fr.Fm w g Kp W R Ds):Calls Tryz.prog 21 #[.slice none 0 0,.slice none 0 0,.bool true] W fun e W'=>e=.returned (.bool true)∧Fr.Fm w g Kp W' R Ds:=by
 have HF:=hid h
 clear h
 go_enter Tryz.func21,Tryz.ntmps21
 go_wp2
 go_loopg [7] 0 (fun gm v7 wr=>v7=.int .i64 0∧RowKit.Hid (Fr.Fm w g Kp wr R Ds))
 case atStart=>exact⟨rfl,HF⟩
 case round =>
  clear HF
  obtain⟨rfl,HF⟩:=hrel
  go_wp2
  refine bodyPost_ret (v:=.bool true) (by simp [results,Tryz.results21,go_sem];try rfl) rfl ⟨rfl,HF.out⟩
theorem rz_sameVars{w W:World}{g:Option Nat}{Kp:World→Prop}{R:List Fr.RI}{Ds:List (Value × Da.D)}(h:Fr.Fm w g Kp W R Ds):Calls Tryz.prog 22 #[.slice none 0 0,.slice none 0 0,.bool true] W fun e W'=>e=.returned (.bool true)∧Fr.Fm w g Kp W' R Ds:=by
 have HF:=hid h
 clear h
 go_enter Tryz.func22,Tryz.ntmps22
 go_wp2
 go_loopg [7] 0 (fun gm v7 wr=>v7=.int .i64 0∧RowKit.Hid (Fr.Fm w g Kp wr R Ds))
 case atStart=>exact⟨rfl,HF⟩
 case round =>
  clear HF
  obtain⟨rfl,HF⟩:=hrel
  go_wp2
  refine bodyPost_ret (v:=.bool true) (by simp [results,Tryz.results22,go_sem];try rfl) rfl ⟨rfl,HF.out⟩
theorem rz_SameStats{w W:World}{g:Option Nat}{Kp:World→Prop}{R:List Fr.RI}{Ds:List (Value × Da.D)}(h:Fr.Fm w g Kp W R Ds):Calls Tryz.prog 23 #[.slice none 0 0,.slice none 0 0,.bool true] W fun e W'=>e=.returned (.bool true)∧Fr.Fm w g Kp W' R Ds:=by
 have HF:=hid h
 clear h
 go_enter Tryz.func23,Tryz.ntmps23
 go_wp2
 go_loopg [7] 0 (fun gm v7 wr=>v7=.int .i64 0∧RowKit.Hid (Fr.Fm w g Kp wr R Ds))
 case atStart=>exact⟨rfl,HF⟩
 case round =>
  clear HF
  obtain⟨rfl,HF⟩:=hrel
  go_wp2
  refine bodyPost_ret (v:=.bool true) (by simp [results,Tryz.results23,go_sem];try rfl) rfl ⟨rfl,HF.out⟩
theorem rz_same{w W:World}{g:Option Nat}{Kp:World→Prop}{R:List Fr.RI}{Ds:List (Value × Da.D)}(h:Fr.Fm w g Kp W R Ds):Calls Tryz.prog 9 #[.agg Fr.zM.toArray,.agg Fr.zM.toArray,.bool true] W fun e W'=>e=.returned (.bool true)∧Fr.Fm w g Kp W' R Ds:=by
 have HF:=hid h
 have HM0:=hid trivial
 clear h
 go_enter Tryz.func9,Tryz.ntmps9
 go_wp2_with (first
  | (clear HM0;(with_reducible refine Fr.is_box ?_);refine Fr.wl_box HF.out rfl rfl ?_;intro ba0 W1 HF1;replace HF:=hid HF1;clear HF1)
  | ((with_reducible refine Fr.is_box ?_);refine Fr.wl_box HF.out rfl rfl ?_;intro bb0 W1 HF1;replace HF:=hid HF1;clear HF1;have⟨f0,f1,f2,f3,f4,f5,f6,f7⟩:=HF.out.c8;have⟨e0,e1,e2,e3,e4,e5,e6,e7⟩:=HF.out.lessR.c8)
  | (go_at_call 20;(with_reducible refine(rz_sameConsts HF.out).mono ?_);rintro e W3 ⟨rfl,HF1⟩;replace HF:=hid HF1;clear HF1;have⟨f0,f1,f2,f3,f4,f5,f6,f7⟩:=HF.out.c8;have⟨e0,e1,e2,e3,e4,e5,e6,e7⟩:=HF.out.lessR.c8)
  | (go_at_call 21;(with_reducible refine(rz_sameTypeDecls HF.out).mono ?_);rintro e W3 ⟨rfl,HF1⟩;replace HF:=hid HF1;clear HF1;have⟨f0,f1,f2,f3,f4,f5,f6,f7⟩:=HF.out.c8;have⟨e0,e1,e2,e3,e4,e5,e6,e7⟩:=HF.out.lessR.c8)
  | (go_at_call 22;(with_reducible refine(rz_sameVars HF.out).mono ?_);rintro e W3 ⟨rfl,HF1⟩;replace HF:=hid HF1;clear HF1;have⟨f0,f1,f2,f3,f4,f5,f6,f7⟩:=HF.out.c8;have⟨e0,e1,e2,e3,e4,e5,e6,e7⟩:=HF.out.lessR.c8)
  | (go_at_call 23;(with_reducible refine(rz_SameStats HF.out).mono ?_);rintro e W3 ⟨rfl,HF1⟩;replace HF:=hid HF1;clear HF1;have⟨f0,f1,f2,f3,f4,f5,f6,f7⟩:=HF.out.c8;have⟨e0,e1,e2,e3,e4,e5,e6,e7⟩:=HF.out.lessR.c8))
 clear e0 e1 e2 e3 e4 e5 e6 e7 f0 f1 f2 f3 f4 f5 f6 f7
 go_loopg [7] 0 (fun gm v7 wr=>v7=.int .i64 0∧RowKit.Hid (Fr.Fm w g Kp wr (.blk bb0 zM::.blk ba0 zM::R) Ds))
 case atStart=>exact⟨rfl,HF⟩
 case round =>
  clear HF
  obtain⟨rfl,HF⟩:=hrel
  have eL:=HF.out.cellAt 1 rfl 1 rfl
  go_wp2
  clear eL
  go_loopg [10] 0 (fun gm v7 wr=>v7=.int .i64 0∧RowKit.Hid (Fr.Fm w g Kp wr (.blk bb0 zM::.blk ba0 zM::R) Ds))
  case atStart=>exact⟨rfl,HF⟩
  case round =>
   clear HF
   obtain⟨rfl,HF⟩:=hrel
   have eL:=HF.out.cellAt 1 rfl 5 rfl
   go_wp2
   refine bodyPost_ret (v:=.bool true) (by simp [results,Tryz.results9,go_sem];try rfl) rfl ⟨rfl,HF.out.lessR.lessR⟩
end Go.Proofs.YtlhmkfcbldghfaaGreatDoor
