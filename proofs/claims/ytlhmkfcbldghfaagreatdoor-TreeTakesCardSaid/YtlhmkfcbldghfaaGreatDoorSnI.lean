/- The walks of tree's declsOf,procOf,moduleOf and Check: they answer true where what is asked may have been read. The walk of Size. Conditions: the library's variables are as they were laid. -/
import Derived.Test.YtlhmkfcbldghfaaGreatDoorSnH
namespace Go.Proofs.YtlhmkfcbldghfaaGreatDoor
set_option linter.all false
open Go.Lib (hid)
set_option maxRecDepth 1000000
set_option maxHeartbeats 16000000
open Go.RowKit
open Fr (is_bool is_box is_int is_loadW is_str row13 tyT wl_box wl_load1 wl_loadSub wl_want)
open Tr (cnD exD fdD moDs tyD)
def OutB(b:Nat)(o:Bool)(R:List Fr.RI):Prop:=∃ k:Nat,R[k]?=some (Fr.RI.blk b [.bool o])
theorem io_cons(b:Nat)(o:Bool)(r:Fr.RI)(R:List Fr.RI)(h:OutB b o R):OutB b o (r::R):=by
 obtain⟨k,hk⟩:=h
 exact⟨k+1,by simpa using hk⟩
theorem io_box(b:Nat)(o:Bool)(R:List Fr.RI):OutB b o (Fr.RI.blk b [.bool o]::R):=⟨0,rfl⟩
namespace Tr
theorem cnDs_len9{l:List (List UInt8 × Bool × Ex × Int)}{ds:List Da.D}(h:ds∈l.map cnD):ds.length=9:=map_mem (Q:=fun d=>d.length=9) (fun e _=>cnD_len e) ds h
theorem imDs_len3{l:List (List UInt8 × List UInt8 × Int)}{ds:List Da.D}(h:ds∈l.map imD):ds.length=3:=map_mem (Q:=fun d=>d.length=3) (fun e _=>rfl) ds h
theorem prDs_len10{l:List Pr}{ds:List Da.D}(h:ds∈l.map prD):ds.length=10:=map_mem (Q:=fun d=>d.length=10) (fun e _=>rfl) ds h
end Tr
theorem const_true(b:Nat)(nn:List UInt8)(bb:Bool)(k n p0 q:Int)(t o:List UInt8)(xs:List Tr.Ex)(hn:Tr.NM nn)(h:PrD rowV Gx (fun _=>True) 123 #[] (exD (.mk k n t o xs p0))):PrD rowV Gx (OutB b true) 122 #[.pointer (some ⟨b,0,none⟩)] (cnD (nn,bb,.mk k n t o xs p0,q)):=by
 intro w W g R Ds vs hio hF hr
 obtain⟨k0,hk0⟩:=hio
 unfold cnD at hr
 simp only [exD,List.cons_append,List.nil_append]at hr
 obtain⟨a0,a1,a2,a3,a4,a5,a6,a7,a8,rfl,ha0,ha1,ha2,ha3,ha4,ha5,ha6,ha7,ha8⟩:=Fr.row9 hr;clear hr
 obtain rfl:=is_str ha0
 obtain rfl:=is_str ha4
 obtain rfl:=is_str ha5
 obtain rfl:=is_bool ha1
 obtain rfl:=is_int ha2
 obtain rfl:=is_int ha3
 obtain rfl:=is_int ha7
 obtain rfl:=is_int ha8
 clear ha0 ha1 ha2 ha3 ha4 ha5 ha7 ha8
 have HF:=hid (hF.plus ha6)
 have HN:=hid hn
 have HX:=hid h
 have HK:=hid hk0
 unfold exD at HX
 clear hF hn h hk0 ha6
 show Calls Tryz.prog 122 #[_,.pointer (some ⟨b,0,none⟩)] W _
 go_enter Tryz.func122,Tryz.ntmps122
 go_wp2_with (first
  | ((with_reducible refine is_box ?_);refine wl_box HF.out rfl rfl ?_;intro bx W1 HF1;replace HF:=hid HF1;clear HF1;have e0:=HF.out.cellAt 0 rfl 0 rfl;have e1:=HF.out.cellAt 0 rfl 1 rfl)
  | (go_at_call 81;(with_reducible refine(tname_yes HN.out HF.out).mono ?_);rintro e W3 ⟨rfl,HF1⟩;replace HF:=hid HF1;clear HF1;have e1:=HF.out.cellAt 0 rfl 1 rfl)
  | ((with_reducible refine is_loadW (T:=4) ?_);(refine wl_want (by rfl) ?_);(refine wl_load1 (k0+1) HF.out rfl (by simpa using HK.out) Tryz.underlying4 rfl rfl ?_))
  | ((with_reducible refine is_loadW (T:=53) ?_);(refine wl_want (by rfl) ?_);(refine wl_loadSub 0 HF.out (vs:=[.int .i64 k,.int .i64 n,.string ⟨t.toArray⟩,.string ⟨o.toArray⟩,a6,.int .i64 p0]) rfl rfl rfl Tryz.underlying53 rfl Fr.tyE rfl ?_))
  | (go_at_call 123;(refine(HX.out _ _ _ _ _ _ trivial HF.out (Da.row_cons (.int _) (Da.row_cons (.int _) (Da.row_cons (.str _) (Da.row_cons (.str _) (Da.row_cons (HF.out.da 0 _ _ rfl) (Da.row_cons (.int _) (Da.row_nil _ _)))))))).mono ?_);rintro e W3 ⟨rfl,HF1⟩;replace HF:=hid HF1;clear HF1))
 refine bodyPost_ret (v:=.bool true) (by simp [results,Tryz.results122,go_sem];try rfl) rfl ⟨rfl,HF.out.lessR.less⟩
theorem const_false(b:Nat)(nn:List UInt8)(k n p0 q:Int)(t o:List UInt8)(xs:List Tr.Ex)(hn:Tr.NM nn)(h:PrD rowV Gx (fun _=>True) 123 #[] (exD (.mk k n t o xs p0))):PrD rowV Gx (OutB b false) 122 #[.pointer (some ⟨b,0,none⟩)] (cnD (nn,false,.mk k n t o xs p0,q)):=by
 intro w W g R Ds vs hio hF hr
 obtain⟨k0,hk0⟩:=hio
 unfold cnD at hr
 simp only [exD,List.cons_append,List.nil_append]at hr
 obtain⟨a0,a1,a2,a3,a4,a5,a6,a7,a8,rfl,ha0,ha1,ha2,ha3,ha4,ha5,ha6,ha7,ha8⟩:=Fr.row9 hr;clear hr
 obtain rfl:=is_str ha0
 obtain rfl:=is_str ha4
 obtain rfl:=is_str ha5
 obtain rfl:=is_bool ha1
 obtain rfl:=is_int ha2
 obtain rfl:=is_int ha3
 obtain rfl:=is_int ha7
 obtain rfl:=is_int ha8
 clear ha0 ha1 ha2 ha3 ha4 ha5 ha7 ha8
 have HF:=hid (hF.plus ha6)
 have HN:=hid hn
 have HX:=hid h
 have HK:=hid hk0
 unfold exD at HX
 clear hF hn h hk0 ha6
 show Calls Tryz.prog 122 #[_,.pointer (some ⟨b,0,none⟩)] W _
 go_enter Tryz.func122,Tryz.ntmps122
 go_wp2_with (first
  | ((with_reducible refine is_box ?_);refine wl_box HF.out rfl rfl ?_;intro bx W1 HF1;replace HF:=hid HF1;clear HF1;have e0:=HF.out.cellAt 0 rfl 0 rfl;have e1:=HF.out.cellAt 0 rfl 1 rfl)
  | (go_at_call 81;(with_reducible refine(tname_yes HN.out HF.out).mono ?_);rintro e W3 ⟨rfl,HF1⟩;replace HF:=hid HF1;clear HF1;have e1:=HF.out.cellAt 0 rfl 1 rfl)
  | ((with_reducible refine is_loadW (T:=4) ?_);(refine wl_want (by rfl) ?_);(refine wl_load1 (k0+1) HF.out rfl (by simpa using HK.out) Tryz.underlying4 rfl rfl ?_))
  | ((with_reducible refine is_loadW (T:=53) ?_);(refine wl_want (by rfl) ?_);(refine wl_loadSub 0 HF.out (vs:=[.int .i64 k,.int .i64 n,.string ⟨t.toArray⟩,.string ⟨o.toArray⟩,a6,.int .i64 p0]) rfl rfl rfl Tryz.underlying53 rfl Fr.tyE rfl ?_))
  | (go_at_call 123;(refine(HX.out _ _ _ _ _ _ trivial HF.out (Da.row_cons (.int _) (Da.row_cons (.int _) (Da.row_cons (.str _) (Da.row_cons (.str _) (Da.row_cons (HF.out.da 0 _ _ rfl) (Da.row_cons (.int _) (Da.row_nil _ _)))))))).mono ?_);rintro e W3 ⟨rfl,HF1⟩;replace HF:=hid HF1;clear HF1))
 refine bodyPost_ret (v:=.bool true) (by simp [results,Tryz.results122,go_sem];try rfl) rfl ⟨rfl,HF.out.lessR.less⟩
theorem tdecl_true(b:Nat)(nn:List UInt8)(bb:Bool)(k p q:Int)(m n:List UInt8)(ls:List Tr.Ex)(el ba rs:List Tr.Ty)(fs ps:List Tr.FT)(hn:Tr.NM nn)(h:PrD rowV Gx (fun _=>True) 126 #[] (tyD (.mk k m n ls el ba fs ps rs p))):PrD rowV Gx (OutB b true) 125 #[.pointer (some ⟨b,0,none⟩)] (fdD (nn,bb,.mk k m n ls el ba fs ps rs p,q)):=by
 intro w W g R Ds vs hio hF hr
 obtain⟨k0,hk0⟩:=hio
 unfold fdD at hr
 simp only [tyD,List.cons_append,List.nil_append]at hr
 obtain⟨a0,a1,a2,a3,a4,a5,a6,a7,a8,a9,a10,a11,a12,rfl,ha0,ha1,ha2,ha3,ha4,ha5,ha6,ha7,ha8,ha9,ha10,ha11,ha12⟩:=row13 hr;clear hr
 obtain rfl:=is_str ha0
 obtain rfl:=is_str ha3
 obtain rfl:=is_str ha4
 obtain rfl:=is_bool ha1
 obtain rfl:=is_int ha2
 obtain rfl:=is_int ha11
 obtain rfl:=is_int ha12
 clear ha0 ha1 ha2 ha3 ha4 ha11 ha12
 have HF:=hid ((((((hF.plus ha10).plus ha9).plus ha8).plus ha7).plus ha6).plus ha5)
 have HN:=hid hn
 have HX:=hid h
 have HK:=hid hk0
 unfold tyD at HX
 clear hF hn h hk0 ha5 ha6 ha7 ha8 ha9 ha10
 show Calls Tryz.prog 125 #[_,.pointer (some ⟨b,0,none⟩)] W _
 go_enter Tryz.func125,Tryz.ntmps125
 go_wp2_with (first
  | ((with_reducible refine is_box ?_);refine wl_box HF.out rfl rfl ?_;intro bx W1 HF1;replace HF:=hid HF1;clear HF1;have e0:=HF.out.cellAt 0 rfl 0 rfl;have e1:=HF.out.cellAt 0 rfl 1 rfl)
  | (go_at_call 81;(with_reducible refine(tname_yes HN.out HF.out).mono ?_);rintro e W3 ⟨rfl,HF1⟩;replace HF:=hid HF1;clear HF1;have e1:=HF.out.cellAt 0 rfl 1 rfl)
  | ((with_reducible refine is_loadW (T:=4) ?_);(refine wl_want (by rfl) ?_);(refine wl_load1 (k0+1) HF.out rfl (by simpa using HK.out) Tryz.underlying4 rfl rfl ?_))
  | ((with_reducible refine is_loadW (T:=123) ?_);(refine wl_want (by rfl) ?_);(refine wl_loadSub 0 HF.out (vs:=[.int .i64 k,.string ⟨m.toArray⟩,.string ⟨n.toArray⟩,a5,a6,a7,a8,a9,a10,.int .i64 p]) rfl rfl rfl Tryz.underlying123 rfl tyT rfl ?_))
  | (go_at_call 126;(refine(HX.out _ _ _ _ _ _ trivial HF.out (Da.row_cons (.int _) (Da.row_cons (.str _) (Da.row_cons (.str _) (Da.row_cons (HF.out.da 0 _ _ rfl) (Da.row_cons (HF.out.da 1 _ _ rfl) (Da.row_cons (HF.out.da 2 _ _ rfl) (Da.row_cons (HF.out.da 3 _ _ rfl) (Da.row_cons (HF.out.da 4 _ _ rfl) (Da.row_cons (HF.out.da 5 _ _ rfl) (Da.row_cons (.int _) (Da.row_nil _ _)))))))))))).mono ?_);rintro e W3 ⟨rfl,HF1⟩;replace HF:=hid HF1;clear HF1))
 refine bodyPost_ret (v:=.bool true) (by simp [results,Tryz.results125,go_sem];try rfl) rfl ⟨rfl,HF.out.lessR.less.less.less.less.less.less⟩
theorem tdecl_false(b:Nat)(nn:List UInt8)(k p q:Int)(m n:List UInt8)(ls:List Tr.Ex)(el ba rs:List Tr.Ty)(fs ps:List Tr.FT)(hn:Tr.NM nn)(h:PrD rowV Gx (fun _=>True) 126 #[] (tyD (.mk k m n ls el ba fs ps rs p))):PrD rowV Gx (OutB b false) 125 #[.pointer (some ⟨b,0,none⟩)] (fdD (nn,false,.mk k m n ls el ba fs ps rs p,q)):=by
 intro w W g R Ds vs hio hF hr
 obtain⟨k0,hk0⟩:=hio
 unfold fdD at hr
 simp only [tyD,List.cons_append,List.nil_append]at hr
 obtain⟨a0,a1,a2,a3,a4,a5,a6,a7,a8,a9,a10,a11,a12,rfl,ha0,ha1,ha2,ha3,ha4,ha5,ha6,ha7,ha8,ha9,ha10,ha11,ha12⟩:=row13 hr;clear hr
 obtain rfl:=is_str ha0
 obtain rfl:=is_str ha3
 obtain rfl:=is_str ha4
 obtain rfl:=is_bool ha1
 obtain rfl:=is_int ha2
 obtain rfl:=is_int ha11
 obtain rfl:=is_int ha12
 clear ha0 ha1 ha2 ha3 ha4 ha11 ha12
 have HF:=hid ((((((hF.plus ha10).plus ha9).plus ha8).plus ha7).plus ha6).plus ha5)
 have HN:=hid hn
 have HX:=hid h
 have HK:=hid hk0
 unfold tyD at HX
 clear hF hn h hk0 ha5 ha6 ha7 ha8 ha9 ha10
 show Calls Tryz.prog 125 #[_,.pointer (some ⟨b,0,none⟩)] W _
 go_enter Tryz.func125,Tryz.ntmps125
 go_wp2_with (first
  | ((with_reducible refine is_box ?_);refine wl_box HF.out rfl rfl ?_;intro bx W1 HF1;replace HF:=hid HF1;clear HF1;have e0:=HF.out.cellAt 0 rfl 0 rfl;have e1:=HF.out.cellAt 0 rfl 1 rfl)
  | (go_at_call 81;(with_reducible refine(tname_yes HN.out HF.out).mono ?_);rintro e W3 ⟨rfl,HF1⟩;replace HF:=hid HF1;clear HF1;have e1:=HF.out.cellAt 0 rfl 1 rfl)
  | ((with_reducible refine is_loadW (T:=4) ?_);(refine wl_want (by rfl) ?_);(refine wl_load1 (k0+1) HF.out rfl (by simpa using HK.out) Tryz.underlying4 rfl rfl ?_))
  | ((with_reducible refine is_loadW (T:=123) ?_);(refine wl_want (by rfl) ?_);(refine wl_loadSub 0 HF.out (vs:=[.int .i64 k,.string ⟨m.toArray⟩,.string ⟨n.toArray⟩,a5,a6,a7,a8,a9,a10,.int .i64 p]) rfl rfl rfl Tryz.underlying123 rfl tyT rfl ?_))
  | (go_at_call 126;(refine(HX.out _ _ _ _ _ _ trivial HF.out (Da.row_cons (.int _) (Da.row_cons (.str _) (Da.row_cons (.str _) (Da.row_cons (HF.out.da 0 _ _ rfl) (Da.row_cons (HF.out.da 1 _ _ rfl) (Da.row_cons (HF.out.da 2 _ _ rfl) (Da.row_cons (HF.out.da 3 _ _ rfl) (Da.row_cons (HF.out.da 4 _ _ rfl) (Da.row_cons (HF.out.da 5 _ _ rfl) (Da.row_cons (.int _) (Da.row_nil _ _)))))))))))).mono ?_);rintro e W3 ⟨rfl,HF1⟩;replace HF:=hid HF1;clear HF1))
 refine bodyPost_ret (v:=.bool true) (by simp [results,Tryz.results125,go_sem];try rfl) rfl ⟨rfl,HF.out.lessR.less.less.less.less.less.less⟩
theorem vdecl_true(b:Nat)(nn:List UInt8)(bb:Bool)(k p q:Int)(m n:List UInt8)(ls:List Tr.Ex)(el ba rs:List Tr.Ty)(fs ps:List Tr.FT)(hn:Tr.NM nn)(h:PrD rowV Gx (fun _=>True) 126 #[] (tyD (.mk k m n ls el ba fs ps rs p))):PrD rowV Gx (OutB b true) 128 #[.pointer (some ⟨b,0,none⟩)] (fdD (nn,bb,.mk k m n ls el ba fs ps rs p,q)):=by
 intro w W g R Ds vs hio hF hr
 obtain⟨k0,hk0⟩:=hio
 unfold fdD at hr
 simp only [tyD,List.cons_append,List.nil_append]at hr
 obtain⟨a0,a1,a2,a3,a4,a5,a6,a7,a8,a9,a10,a11,a12,rfl,ha0,ha1,ha2,ha3,ha4,ha5,ha6,ha7,ha8,ha9,ha10,ha11,ha12⟩:=row13 hr;clear hr
 obtain rfl:=is_str ha0
 obtain rfl:=is_str ha3
 obtain rfl:=is_str ha4
 obtain rfl:=is_bool ha1
 obtain rfl:=is_int ha2
 obtain rfl:=is_int ha11
 obtain rfl:=is_int ha12
 clear ha0 ha1 ha2 ha3 ha4 ha11 ha12
 have HF:=hid ((((((hF.plus ha10).plus ha9).plus ha8).plus ha7).plus ha6).plus ha5)
 have HN:=hid hn
 have HX:=hid h
 have HK:=hid hk0
 unfold tyD at HX
 clear hF hn h hk0 ha5 ha6 ha7 ha8 ha9 ha10
 show Calls Tryz.prog 128 #[_,.pointer (some ⟨b,0,none⟩)] W _
 go_enter Tryz.func128,Tryz.ntmps128
 go_wp2_with (first
  | ((with_reducible refine is_box ?_);refine wl_box HF.out rfl rfl ?_;intro bx W1 HF1;replace HF:=hid HF1;clear HF1;have e0:=HF.out.cellAt 0 rfl 0 rfl;have e1:=HF.out.cellAt 0 rfl 1 rfl)
  | (go_at_call 81;(with_reducible refine(tname_yes HN.out HF.out).mono ?_);rintro e W3 ⟨rfl,HF1⟩;replace HF:=hid HF1;clear HF1;have e1:=HF.out.cellAt 0 rfl 1 rfl)
  | ((with_reducible refine is_loadW (T:=4) ?_);(refine wl_want (by rfl) ?_);(refine wl_load1 (k0+1) HF.out rfl (by simpa using HK.out) Tryz.underlying4 rfl rfl ?_))
  | ((with_reducible refine is_loadW (T:=123) ?_);(refine wl_want (by rfl) ?_);(refine wl_loadSub 0 HF.out (vs:=[.int .i64 k,.string ⟨m.toArray⟩,.string ⟨n.toArray⟩,a5,a6,a7,a8,a9,a10,.int .i64 p]) rfl rfl rfl Tryz.underlying123 rfl tyT rfl ?_))
  | (go_at_call 126;(refine(HX.out _ _ _ _ _ _ trivial HF.out (Da.row_cons (.int _) (Da.row_cons (.str _) (Da.row_cons (.str _) (Da.row_cons (HF.out.da 0 _ _ rfl) (Da.row_cons (HF.out.da 1 _ _ rfl) (Da.row_cons (HF.out.da 2 _ _ rfl) (Da.row_cons (HF.out.da 3 _ _ rfl) (Da.row_cons (HF.out.da 4 _ _ rfl) (Da.row_cons (HF.out.da 5 _ _ rfl) (Da.row_cons (.int _) (Da.row_nil _ _)))))))))))).mono ?_);rintro e W3 ⟨rfl,HF1⟩;replace HF:=hid HF1;clear HF1))
 refine bodyPost_ret (v:=.bool true) (by simp [results,Tryz.results128,go_sem];try rfl) rfl ⟨rfl,HF.out.lessR.less.less.less.less.less.less⟩
theorem vdecl_false(b:Nat)(nn:List UInt8)(k p q:Int)(m n:List UInt8)(ls:List Tr.Ex)(el ba rs:List Tr.Ty)(fs ps:List Tr.FT)(hn:Tr.NM nn)(h:PrD rowV Gx (fun _=>True) 126 #[] (tyD (.mk k m n ls el ba fs ps rs p))):PrD rowV Gx (OutB b false) 128 #[.pointer (some ⟨b,0,none⟩)] (fdD (nn,false,.mk k m n ls el ba fs ps rs p,q)):=by
 intro w W g R Ds vs hio hF hr
 obtain⟨k0,hk0⟩:=hio
 unfold fdD at hr
 simp only [tyD,List.cons_append,List.nil_append]at hr
 obtain⟨a0,a1,a2,a3,a4,a5,a6,a7,a8,a9,a10,a11,a12,rfl,ha0,ha1,ha2,ha3,ha4,ha5,ha6,ha7,ha8,ha9,ha10,ha11,ha12⟩:=row13 hr;clear hr
 obtain rfl:=is_str ha0
 obtain rfl:=is_str ha3
 obtain rfl:=is_str ha4
 obtain rfl:=is_bool ha1
 obtain rfl:=is_int ha2
 obtain rfl:=is_int ha11
 obtain rfl:=is_int ha12
 clear ha0 ha1 ha2 ha3 ha4 ha11 ha12
 have HF:=hid ((((((hF.plus ha10).plus ha9).plus ha8).plus ha7).plus ha6).plus ha5)
 have HN:=hid hn
 have HX:=hid h
 have HK:=hid hk0
 unfold tyD at HX
 clear hF hn h hk0 ha5 ha6 ha7 ha8 ha9 ha10
 show Calls Tryz.prog 128 #[_,.pointer (some ⟨b,0,none⟩)] W _
 go_enter Tryz.func128,Tryz.ntmps128
 go_wp2_with (first
  | ((with_reducible refine is_box ?_);refine wl_box HF.out rfl rfl ?_;intro bx W1 HF1;replace HF:=hid HF1;clear HF1;have e0:=HF.out.cellAt 0 rfl 0 rfl;have e1:=HF.out.cellAt 0 rfl 1 rfl)
  | (go_at_call 81;(with_reducible refine(tname_yes HN.out HF.out).mono ?_);rintro e W3 ⟨rfl,HF1⟩;replace HF:=hid HF1;clear HF1;have e1:=HF.out.cellAt 0 rfl 1 rfl)
  | ((with_reducible refine is_loadW (T:=4) ?_);(refine wl_want (by rfl) ?_);(refine wl_load1 (k0+1) HF.out rfl (by simpa using HK.out) Tryz.underlying4 rfl rfl ?_))
  | ((with_reducible refine is_loadW (T:=123) ?_);(refine wl_want (by rfl) ?_);(refine wl_loadSub 0 HF.out (vs:=[.int .i64 k,.string ⟨m.toArray⟩,.string ⟨n.toArray⟩,a5,a6,a7,a8,a9,a10,.int .i64 p]) rfl rfl rfl Tryz.underlying123 rfl tyT rfl ?_))
  | (go_at_call 126;(refine(HX.out _ _ _ _ _ _ trivial HF.out (Da.row_cons (.int _) (Da.row_cons (.str _) (Da.row_cons (.str _) (Da.row_cons (HF.out.da 0 _ _ rfl) (Da.row_cons (HF.out.da 1 _ _ rfl) (Da.row_cons (HF.out.da 2 _ _ rfl) (Da.row_cons (HF.out.da 3 _ _ rfl) (Da.row_cons (HF.out.da 4 _ _ rfl) (Da.row_cons (HF.out.da 5 _ _ rfl) (Da.row_cons (.int _) (Da.row_nil _ _)))))))))))).mono ?_);rintro e W3 ⟨rfl,HF1⟩;replace HF:=hid HF1;clear HF1))
 refine bodyPost_ret (v:=.bool true) (by simp [results,Tryz.results128,go_sem];try rfl) rfl ⟨rfl,HF.out.lessR.less.less.less.less.less.less⟩
theorem const_yes(b:Nat)(o:Bool)(x:List UInt8 × Bool × Tr.Ex × Int)(h:Tr.Wc o x):PrD rowV Gx (OutB b o) 122 #[.pointer (some ⟨b,0,none⟩)] (cnD x):=by
 obtain⟨n,bb,e,p,hn,hb,he⟩:=h
 have h1:=expr_yes e he
 obtain⟨k,n0,t,op,xs,p0⟩:=e
 cases o with
 | true=>exact const_true b n bb k n0 p0 p t op xs hn h1
 | false=>rw [hb rfl];exact const_false b n k n0 p0 p t op xs hn h1
theorem tdecl_yes(b:Nat)(o:Bool)(x:Tr.FT)(h:Tr.Wt o x):PrD rowV Gx (OutB b o) 125 #[.pointer (some ⟨b,0,none⟩)] (fdD x):=by
 obtain⟨n,bb,e,p,hn,hb,he⟩:=h
 have h1:=type_yes e he
 obtain⟨k,m,n2,ls,el,ba,fs,ps,rs,q⟩:=e
 cases o with
 | true=>exact tdecl_true b n bb k q p m n2 ls el ba rs fs ps hn h1
 | false=>rw [hb rfl];exact tdecl_false b n k q p m n2 ls el ba rs fs ps hn h1
theorem vdecl_yes(b:Nat)(o:Bool)(x:Tr.FT)(h:Tr.Wt o x):PrD rowV Gx (OutB b o) 128 #[.pointer (some ⟨b,0,none⟩)] (fdD x):=by
 obtain⟨n,bb,e,p,hn,hb,he⟩:=h
 have h1:=type_yes e he
 obtain⟨k,m,n2,ls,el,ba,fs,ps,rs,q⟩:=e
 cases o with
 | true=>exact vdecl_true b n bb k q p m n2 ls el ba rs fs ps hn h1
 | false=>rw [hb rfl];exact vdecl_false b n k q p m n2 ls el ba rs fs ps hn h1
theorem decls_yes(o:Bool)(cs:List (List UInt8 × Bool × Tr.Ex × Int))(ts vs:List Tr.FT)(hc:Tr.AllP (Tr.Wc o) cs)(ht:Tr.AllP (Tr.Wt o) ts)(hv:Tr.AllP (Tr.Wt o) vs){w W:World}{g:Option Nat}{R:List Fr.RI}{Ds:List (Value × Da.D)}(m1 m2 m3:Nat)(v1 v2 v3:Value)
  (h1:Ds[m1]?=some (v1,.list 9 (cs.map cnD))) (h2:Ds[m2]?=some (v2,.list 13 (Tr.fdDs ts))) (h3:Ds[m3]?=some (v3,.list 13 (Tr.fdDs vs))) (hF:Fr.Fm w g Gx W R Ds) :
  Calls Tryz.prog 84 #[v1,v2,v3,.bool o] W fun e W'=>e=.returned (.bool true)∧Fr.Fm w g Gx W' R Ds:=by
 have HF:=hid hF
 have H1:=hid h1
 have H2:=hid h2
 have H3:=hid h3
 have HA:=hid (fun b=>all_tyC Gx (OutB b o) (io_cons b o) 122 #[.pointer (some ⟨b,0,none⟩)] eg_declsOf_1 _ (fun ds hd=>Tr.cnDs_len9 hd) (Tr.map_mem fun x hx=>const_yes b o x (Tr.allP_mem hc x hx)))
 have HB:=hid (fun b=>all_tyTy Gx (OutB b o) (io_cons b o) 125 #[.pointer (some ⟨b,0,none⟩)] eg_declsOf_2 _ (fun ds hd=>Tr.fdDs_len13 hd) (Tr.fdDs_mem fun x hx=>tdecl_yes b o x (Tr.allP_mem ht x hx)))
 have HC:=hid (fun b=>all_tyV Gx (OutB b o) (io_cons b o) 128 #[.pointer (some ⟨b,0,none⟩)] eg_declsOf_3 _ (fun ds hd=>Tr.fdDs_len13 hd) (Tr.fdDs_mem fun x hx=>vdecl_yes b o x (Tr.allP_mem hv x hx)))
 clear hF h1 h2 h3 hc ht hv
 go_enter Tryz.func84,Tryz.ntmps84
 go_wp2_with (first
  | ((with_reducible refine is_box ?_);refine wl_box HF.out rfl rfl ?_;intro bx W1 HF1;replace HF:=hid HF1;clear HF1;skip)
  | (go_at_call 121;(with_reducible refine(HA.out bx _ _ _ _ _ m1 _ (io_box bx o _) H1.out HF.out).mono ?_);rintro e W3 ⟨rfl,HF1⟩;replace HF:=hid HF1;clear HF1)
  | (go_at_call 124;(with_reducible refine(HB.out bx _ _ _ _ _ m2 _ (io_box bx o _) H2.out HF.out).mono ?_);rintro e W3 ⟨rfl,HF1⟩;replace HF:=hid HF1;clear HF1)
  | (go_at_call 127;(with_reducible refine(HC.out bx _ _ _ _ _ m3 _ (io_box bx o _) H3.out HF.out).mono ?_);rintro e W3 ⟨rfl,HF1⟩;replace HF:=hid HF1;clear HF1))
 refine bodyPost_ret (v:=.bool true) (by simp [results,Tryz.results84,go_sem];try rfl) rfl ⟨rfl,HF.out.lessR⟩
theorem proc_yes(x:Tr.Pr)(h:Tr.WPr x):PrD rowV Gx (fun _=>True) 86 #[] (Tr.prD x):=by
 obtain⟨nn,ob,ps,rs,⟨cs,ts,vs⟩,bd,rt,p⟩:=x
 obtain⟨hn,hp,hrs,hde,hb,hrt⟩:=h
 obtain⟨hc,ht,hv⟩:=hde
 simp only at hn hp hrs hc ht hv hb hrt
 intro w W g R Ds us _ hF hr
 unfold Tr.prD at hr
 obtain⟨a0,a1,a2,a3,a4,a5,a6,a7,a8,a9,rfl,ha0,ha1,ha2,ha3,ha4,ha5,ha6,ha7,ha8,ha9⟩:=Fr.row10 hr;clear hr
 obtain rfl:=is_str ha0
 obtain rfl:=is_bool ha1
 obtain rfl:=is_int ha9
 clear ha0 ha1 ha9
 have HF:=hid (((((((hF.plus ha8).plus ha7).plus ha6).plus ha5).plus ha4).plus ha3).plus ha2)
 have hok:∀ ds∈Tr.stDs bd,PrD rowV Gx (fun _=>True) 88 #[] ds:=Tr.stDs_mem fun s hs=>stat_yes s (Tr.allP_mem hb s hs)
 have hok2:∀ ds∈Tr.exDs rt,PrD rowV Gx (fun _=>True) 123 #[] ds:=Tr.exDs_mem fun s hs=>expr_yes s ((Tr.most_mem hrt).1 s hs)
 have hl:=(Tr.most_mem hrt).2
 have HA:=hid (all_tyS Gx (fun _=>True) (fun _ _ h=>h) 88 #[] eg_statOf _ (fun ds hd=>Tr.stDs_len6 hd) hok)
 have HB:=hid (all_tyE Gx (fun _=>True) (fun _ _ h=>h) 123 #[] eg_exprOf _ (fun ds hd=>Tr.exDs_len6 hd) hok2)
 obtain⟨p8,c8,rfl,-,-⟩:=HF.out.daSlice (m:=6) rfl
 simp only [Fr.exDs_len']at HF ⊢
 have hl2:(rt.length:Int)≤1:=by omega
 have HN:=hid hn
 have HFO:=hid (And.intro hp hrs)
 have HDE:=hid (And.intro hc (And.intro ht hv))
 clear hF hn hp hrs hc ht hv hb hrt hok hok2 hl ha2 ha3 ha4 ha5 ha6 ha7 ha8
 go_enter Tryz.func86,Tryz.ntmps86
 go_wp2_with (first
  | ((with_reducible refine is_box ?_);refine wl_box HF.out rfl rfl ?_;intro bx W1 HF1;replace HF:=hid HF1;clear HF1;have⟨e0,e1,e2,e3,e4,e5,e6,e7,e8⟩:=HF.out.c9)
  | (go_at_call 81;(with_reducible refine(tname_yes HN.out HF.out).mono ?_);rintro e W3 ⟨rfl,HF1⟩;replace HF:=hid HF1;clear HF1;have⟨e0,e1,e2,e3,e4,e5,e6,e7,e8⟩:=HF.out.c9)
  | (go_at_call 131;(refine(formals_yes ps rs HFO.out.1 HFO.out.2 0 1 _ _ rfl rfl HF.out).mono ?_);rintro e W3 ⟨rfl,HF1⟩;replace HF:=hid HF1;clear HF1;have⟨e0,e1,e2,e3,e4,e5,e6,e7,e8⟩:=HF.out.c9)
  | (go_at_call 84;(refine(decls_yes false cs ts vs HDE.out.1 HDE.out.2.1 HDE.out.2.2 2 3 4 _ _ _ rfl rfl rfl HF.out).mono ?_);rintro e W3 ⟨rfl,HF1⟩;replace HF:=hid HF1;clear HF1;have⟨e0,e1,e2,e3,e4,e5,e6,e7,e8⟩:=HF.out.c9)
  | (go_at_call 87;(with_reducible refine(HA.out _ _ _ _ _ 5 _ trivial rfl HF.out).mono ?_);rintro e W3 ⟨rfl,HF1⟩;replace HF:=hid HF1;clear HF1;have⟨e0,e1,e2,e3,e4,e5,e6,e7,e8⟩:=HF.out.c9)
  | (go_at_call 132;(with_reducible refine(HB.out _ _ _ _ _ 6 _ trivial rfl HF.out).mono ?_);rintro e W3 ⟨rfl,HF1⟩;replace HF:=hid HF1;clear HF1))
 refine bodyPost_ret (v:=.bool true) (by simp [results,Tryz.results86,go_sem];try rfl) rfl ⟨rfl,HF.out.lessR.less.less.less.less.less.less.less⟩
theorem import_yes(x:List UInt8 × List UInt8 × Int)(h:Tr.NM x.1)(h2:Tr.NM x.2.1):PrD rowV Gx (fun _=>True) 83 #[] (Tr.imD x):=by
 obtain⟨a,b,p⟩:=x
 intro w W g R Ds us _ hF hr
 unfold Tr.imD at hr
 simp only at h h2 hr
 obtain⟨a0,a1,a2,rfl,ha0,ha1,ha2⟩:=Fr.row3 hr;clear hr
 obtain rfl:=is_str ha0
 obtain rfl:=is_str ha1
 obtain rfl:=is_int ha2
 clear ha0 ha1 ha2
 have HF:=hid hF
 have HN:=hid h
 have HM:=hid h2
 clear hF h h2
 go_enter Tryz.func83,Tryz.ntmps83
 go_wp2_with (first
  | ((with_reducible refine is_box ?_);refine wl_box HF.out rfl rfl ?_;intro bx W1 HF1;replace HF:=hid HF1;clear HF1;have⟨e0,e1⟩:=HF.out.c2)
  | (go_at_call 81;(with_reducible refine(tname_yes HN.out HF.out).mono ?_);rintro e W3 ⟨rfl,HF1⟩;replace HF:=hid HF1;clear HF1;have⟨e0,e1⟩:=HF.out.c2)
  | (go_at_call 81;(with_reducible refine(tname_yes HM.out HF.out).mono ?_);rintro e W3 ⟨rfl,HF1⟩;replace HF:=hid HF1;clear HF1;have⟨e0,e1⟩:=HF.out.c2))
 all_goals refine bodyPost_ret (v:=.bool true) (by simp [results,Tryz.results83,go_sem];try rfl) rfl ⟨rfl,HF.out.lessR⟩
theorem module_yes(M:Tr.Mo)(h:Tr.WM M){w W:World}{g:Option Nat}{R:List Fr.RI}{Ds:List (Value × Da.D)}(v1 v2 v3 v4 v5 v6:Value)(ps:Int)(hF:Fr.Fm w g Gx W R (moDs M v1 v2 v3 v4 v5 v6 Ds)) :
  Calls Tryz.prog 52 #[.agg #[.string ⟨M.name.toArray⟩,v1,v2,v3,v4,v5,v6,.int .i64 ps]] W fun e W'=>e=.returned (.bool true)∧Fr.Fm w g Gx W' R (moDs M v1 v2 v3 v4 v5 v6 Ds):=by
 obtain⟨mn,ims,⟨cs,ts,vs⟩,prs,mb,mp⟩:=M
 obtain⟨hn,hi,⟨hc,ht,hv⟩,hp,hb⟩:=h
 simp only at hn hi hc ht hv hp hb
 have HF:=hid hF
 have hok:∀ ds∈ims.map Tr.imD,PrD rowV Gx (fun _=>True) 83 #[] ds:=Tr.map_mem fun x hx=>import_yes x (Tr.allP_mem hi x hx).1 (Tr.allP_mem hi x hx).2
 have hok2:∀ ds∈prs.map Tr.prD,PrD rowV Gx (fun _=>True) 86 #[] ds:=Tr.map_mem fun x hx=>proc_yes x (Tr.allP_mem hp x hx)
 have hok3:∀ ds∈Tr.stDs mb,PrD rowV Gx (fun _=>True) 88 #[] ds:=Tr.stDs_mem fun x hx=>stat_yes x (Tr.allP_mem hb x hx)
 have HA:=hid (all_tyI Gx (fun _=>True) (fun _ _ h=>h) 83 #[] eg_moduleOf_1 _ (fun ds hd=>Tr.imDs_len3 hd) hok)
 have HB:=hid (all_tyPr Gx (fun _=>True) (fun _ _ h=>h) 86 #[] eg_procOf _ (fun ds hd=>Tr.prDs_len10 hd) hok2)
 have HC:=hid (all_tyS Gx (fun _=>True) (fun _ _ h=>h) 88 #[] eg_statOf _ (fun ds hd=>Tr.stDs_len6 hd) hok3)
 have HN:=hid hn
 have HDE:=hid (And.intro hc (And.intro ht hv))
 clear hF hn hi hc ht hv hp hb hok hok2 hok3
 go_enter Tryz.func52,Tryz.ntmps52
 go_wp2_with (first
  | ((with_reducible refine is_box ?_);refine wl_box HF.out rfl rfl ?_;intro bx W1 HF1;replace HF:=hid HF1;clear HF1;have⟨e0,e1,e2,e3,e4,e5,e6⟩:=HF.out.c7)
  | (go_at_call 81;(with_reducible refine(tname_yes HN.out HF.out).mono ?_);rintro e W3 ⟨rfl,HF1⟩;replace HF:=hid HF1;clear HF1;have⟨e0,e1,e2,e3,e4,e5,e6⟩:=HF.out.c7)
  | (go_at_call 82;(refine(HA.out _ _ _ _ _ 0 _ trivial rfl HF.out).mono ?_);rintro e W3 ⟨rfl,HF1⟩;replace HF:=hid HF1;clear HF1;have⟨e0,e1,e2,e3,e4,e5,e6⟩:=HF.out.c7)
  | (go_at_call 84;(refine(decls_yes true cs ts vs HDE.out.1 HDE.out.2.1 HDE.out.2.2 1 2 3 _ _ _ rfl rfl rfl HF.out).mono ?_);rintro e W3 ⟨rfl,HF1⟩;replace HF:=hid HF1;clear HF1;have⟨e0,e1,e2,e3,e4,e5,e6⟩:=HF.out.c7)
  | (go_at_call 85;(refine(HB.out _ _ _ _ _ 4 _ trivial rfl HF.out).mono ?_);rintro e W3 ⟨rfl,HF1⟩;replace HF:=hid HF1;clear HF1;have⟨e0,e1,e2,e3,e4,e5,e6⟩:=HF.out.c7)
  | (go_at_call 87;(refine(HC.out _ _ _ _ _ 5 _ trivial rfl HF.out).mono ?_);rintro e W3 ⟨rfl,HF1⟩;replace HF:=hid HF1;clear HF1))
 refine bodyPost_ret (v:=.bool true) (by simp [results,Tryz.results52,go_sem];try rfl) rfl ⟨rfl,HF.out.lessR⟩
theorem check_yes(M:Tr.Mo)(h:Tr.WM M)(hl:Tr.limW M=0){w W:World}{g:Option Nat}{R:List Fr.RI}{Ds:List (Value × Da.D)}(v1 v2 v3 v4 v5 v6:Value)(ps:Int)(hF:Fr.Fm w g Gx W R (moDs M v1 v2 v3 v4 v5 v6 Ds)) :
  Calls Tryz.prog 16 #[.agg #[.string ⟨M.name.toArray⟩,v1,v2,v3,v4,v5,v6,.int .i64 ps]] W fun e W'=>e=.returned (.bool true)∧Fr.Fm w g Gx W' R (moDs M v1 v2 v3 v4 v5 v6 Ds):=by
 have HF:=hid hF
 have HM:=hid h
 have HLM:=hid (fun(W:World) (R:List Fr.RI) (h:Fr.Fm w g Gx W R (moDs M v1 v2 v3 v4 v5 v6 Ds))=>by
  have:=limited_any M ⟨M.name.toArray⟩ v1 v2 v3 v4 v5 v6 ps h
  rw [hl]at this
  exact this)
 clear hF h hl
 go_enter Tryz.func16,Tryz.ntmps16
 go_wp2_with (first
  | ((with_reducible refine is_box ?_);refine wl_box HF.out rfl rfl ?_;intro bx W1 HF1;replace HF:=hid HF1;clear HF1;skip)
  | ((with_reducible refine Fr.is_load (T:=30) ?_);(refine Fr.wl_load 0 HF.out rfl rfl Tryz.underlying30 rfl Fr.tyM rfl ?_))
  | ((with_reducible refine is_loadW (T:=30) ?_);(refine wl_want (by rfl) ?_);(refine Fr.wl_load 0 HF.out rfl rfl Tryz.underlying30 rfl Fr.tyM rfl ?_))
  | (go_at_call 19;(with_reducible refine(HLM.out _ _ HF.out).mono ?_);rintro e W3 ⟨rfl,HF1⟩;replace HF:=hid HF1;clear HF1)
  | (go_at_call 52;(with_reducible refine(module_yes M HM.out v1 v2 v3 v4 v5 v6 ps HF.out).mono ?_);rintro e W3 ⟨rfl,HF1⟩;replace HF:=hid HF1;clear HF1))
 refine bodyPost_ret (v:=.bool true) (by simp [results,Tryz.results16,go_sem];try rfl) rfl ⟨rfl,HF.out.lessR⟩
theorem size_any(M:Tr.Mo)(h0:0≤(Tr.walkW M).left)(h1:(Tr.walkW M).left≤4000){w W:World}{g:Option Nat}{Kp:World→Prop}{R:List Fr.RI}{Ds:List (Value × Da.D)}(nm:ByteArray)(v1 v2 v3 v4 v5 v6:Value)(ps:Int)(hF:Fr.Fm w g Kp W R (moDs M v1 v2 v3 v4 v5 v6 Ds)) :
  Calls Tryz.prog 15 #[.agg #[.string nm,v1,v2,v3,v4,v5,v6,.int .i64 ps]] W fun e W'=>e=.returned (.int .i64 (4000 - (Tr.walkW M).left))∧Fr.Fm w g Kp W' R (moDs M v1 v2 v3 v4 v5 v6 Ds):=by
 have HF:=hid hF
 have HW:=hid (fun(W:World) (R:List Fr.RI) h=>walked_any M nm v1 v2 v3 v4 v5 v6 ps (w:=w) (W:=W) (g:=g) (Kp:=Kp) (R:=R) (Ds:=Ds) h)
 generalize Tr.walkW M=y at h0 h1 HW ⊢
 obtain⟨lf,dp,lg⟩:=y
 simp only at h0 h1 ⊢
 have hm1:¬(4001:Int)<4000 - lf:=by omega
 have hm2:¬(4001:Int)≤4000 - lf:=by omega
 have hm3:(4000:Int) - lf<4001:=by omega
 have hm4:(4000:Int) - lf≤4001:=by omega
 clear hF
 go_enter Tryz.func15,Tryz.ntmps15
 go_wp2_with (first
  | ((with_reducible refine is_box ?_);refine wl_box HF.out rfl rfl ?_;intro bx W1 HF1;replace HF:=hid HF1;clear HF1;skip)
  | ((with_reducible refine Fr.is_load (T:=30) ?_);(refine Fr.wl_load 0 HF.out rfl rfl Tryz.underlying30 rfl Fr.tyM rfl ?_))
  | (go_at_call 51;(with_reducible refine(HW.out _ _ HF.out).mono ?_);rintro e W1 ⟨bw,rfl,HF1⟩;have c0:=HF1.cellAt 0 rfl 0 rfl;have hbw:=HF1.ltAt 0 rfl;replace HF:=hid HF1;clear HF1))
 refine bodyPost_ret (v:=.int .i64 (4000 - lf)) (by simp [results,Tryz.results15,go_sem];try omega) rfl ⟨rfl,HF.out.lessR.lessR⟩
end Go.Proofs.YtlhmkfcbldghfaaGreatDoor
