/- The walk of tree's exprOf,kind by kind: it answers true at an expression that may have been read. Conditions: the library's variables are xs they were laid;what stands beneath is answered true. -/
import Derived.Test.YtlhmkfcbldghfaaGreatDoorSnB
import Derived.Test.YtlhmkfcbldghfaaGreatDoorSnE
import Derived.Test.YtlhmkfcbldghfaaGreatDoorSmB
namespace Go.Proofs.YtlhmkfcbldghfaaGreatDoor
set_option linter.all false
open Go.Lib (hid)
set_option maxRecDepth 1000000
set_option maxHeartbeats 16000000
open Go.RowKit
open Fr (tkB tkM wT wN wE)
open Fr (exDs_len' is_box is_int is_str row_inv row_inv0 tyE wl_box)
open Tr (exD exDs)
theorem eg_exprOf(args:Array Value)(X:World):(callFunc 123 args).run Tryz.prog X=.ok (.enter 123 args) X:=by kernel_rfl
theorem eg_labelOf(args:Array Value)(X:World):(callFunc 138 args).run Tryz.prog X=.ok (.enter 138 args) X:=by kernel_rfl
theorem eg_qualOf(args:Array Value)(X:World):(callFunc 162 args).run Tryz.prog X=.ok (.enter 162 args) X:=by kernel_rfl
theorem eg_statOf(args:Array Value)(X:World):(callFunc 88 args).run Tryz.prog X=.ok (.enter 88 args) X:=by kernel_rfl
theorem eg_procOf(args:Array Value)(X:World):(callFunc 86 args).run Tryz.prog X=.ok (.enter 86 args) X:=by kernel_rfl
theorem eg_formalsOf_1(args:Array Value)(X:World):(callFunc 171 args).run Tryz.prog X=.ok (.enter 171 args) X:=by kernel_rfl
theorem eg_typeOf_1(args:Array Value)(X:World):(callFunc 166 args).run Tryz.prog X=.ok (.enter 166 args) X:=by kernel_rfl
theorem eg_statOf_1(args:Array Value)(X:World):(callFunc 137 args).run Tryz.prog X=.ok (.enter 137 args) X:=by kernel_rfl
theorem eg_statOf_2(args:Array Value)(X:World):(callFunc 140 args).run Tryz.prog X=.ok (.enter 140 args) X:=by kernel_rfl
theorem eg_moduleOf_1(args:Array Value)(X:World):(callFunc 83 args).run Tryz.prog X=.ok (.enter 83 args) X:=by kernel_rfl
theorem eg_declsOf_1(args:Array Value)(X:World):(callFunc 122 args).run Tryz.prog X=.ok (.enter 122 args) X:=by kernel_rfl
theorem eg_declsOf_2(args:Array Value)(X:World):(callFunc 125 args).run Tryz.prog X=.ok (.enter 125 args) X:=by kernel_rfl
theorem eg_declsOf_3(args:Array Value)(X:World):(callFunc 128 args).run Tryz.prog X=.ok (.enter 128 args) X:=by kernel_rfl
theorem Tr.exDs_len6{l:List Tr.Ex}{ds:List Da.D}(h:ds∈exDs l):ds.length=6:=by
 rw [Tr.exDs_map]at h
 obtain⟨e,_,rfl⟩:=List.mem_map.1 h
 exact Tr.exD_len e
theorem expr_int(xs:List Tr.Ex)(n p:Int)(t:List UInt8)(hok:∀ ds∈exDs xs,PrD rowV Gx (fun _=>True) 123 #[] ds)(hlen:xs.length=0)(hpl:PrD rowV Gx (fun _=>True) 158 #[] (exD (.mk 1 n t [] xs p))):PrD rowV Gx (fun _=>True) 123 #[] (exD (.mk 1 n t [] xs p)):=by
 intro w W g R Ds vs _ hF hr
 unfold exD at hr
 obtain⟨c0,_,rfl,h0,hr⟩:=row_inv hr
 obtain⟨c1,_,rfl,h1,hr⟩:=row_inv hr
 obtain⟨c2,_,rfl,h2,hr⟩:=row_inv hr
 obtain⟨c3,_,rfl,h3,hr⟩:=row_inv hr
 obtain⟨c4,_,rfl,h4,hr⟩:=row_inv hr
 obtain⟨c5,_,rfl,h5,hr⟩:=row_inv hr
 obtain rfl:=row_inv0 hr
 obtain rfl:=is_int h0
 obtain rfl:=is_int h1
 obtain rfl:=is_str h2
 obtain rfl:=is_str h3
 obtain rfl:=is_int h5
 clear h0 h1 h2 h3 h5 hr
 have HF:=hid (hF.plus h4)
 have HA:=hid (all_tyE Gx (fun _=>True) (fun _ _ h=>h) 123 #[] eg_exprOf _ (fun ds hd=>Tr.exDs_len6 hd) hok)
 obtain⟨p4,c4,rfl,hl4,hp4⟩:=HF.out.daSlice (m:=0) rfl
 rw [exDs_len']at hl4 hp4 HF ⊢
 rw [hlen]at hl4 hp4 HF ⊢
 have HPL:=hid hpl
 clear hF h4 hok hp4 hpl
 go_enter Tryz.func123,Tryz.ntmps123
 go_wp2_with (first
  | ((with_reducible refine is_box ?_);refine wl_box HF.out rfl rfl ?_;intro bx W1 HF1;replace HF:=hid HF1;clear HF1;have⟨e0,e1,e2,e3,e4,e5⟩:=HF.out.c6))
 clear e0 e1 e2 e3 e4 e5
 replace HF:=hid HF.out.drew
 refine wp_region_G (UpTo 8 (fun X=>Fr.Fm w g Gx X (.blk bx [.int .i64 1,.int .i64 n,.string ⟨t.toArray⟩,.string ⟨#[]⟩,.slice p4 0 c4,.int .i64 p]::R) ((.slice p4 0 c4,Da.D.list 6 (exDs xs))::Ds))) 9 (by kernel_rfl) (by kernel_rfl) (fun _=>HF.out) (fun _ hS=>?_)
 generalize World.drew _=W1 at HF hS ⊢
 refine tkB (n:=9) (is:=[0,1,2,3,4]) [[0],[1],[2],[3],[4]] (k:=5) rfl (by kernel_rfl) hS ?_
 repeat(first|(refine wT (i:=1) (v:=.int .i64 n) rfl (by rfl) (fun X xb=>?_) ?_;(focus(have y:=xb.cellAt 0 rfl 1 rfl;clear xb;go_simp;try with_reducible rfl)))|(refine wT (i:=3) (v:=.string ⟨t.toArray⟩) rfl (by rfl) (fun X xb=>?_) ?_;(focus(have y:=xb.cellAt 0 rfl 2 rfl;clear xb;go_simp;try with_reducible rfl)))|(refine wT (i:=4) (v:=.agg #[.int .i64 1,.int .i64 n,.string ⟨t.toArray⟩,.string ⟨#[]⟩,.slice p4 0 c4,.int .i64 p]) rfl (by rfl) (fun X xb=>?_) ?_;(focus(exact Fr.exec_blk (k:=0) xb rfl rfl rfl Tryz.underlying53 rfl tyE rfl)))|(refine wT (v:=?_) rfl (by rfl) (fun X hX=>?_) ?_;rotate_left 1;(focus(clear hX;go_simp;try with_reducible rfl))));try simp only [Act.put,zA,z0,z1]
 refine wE fun hS=>?_
 refine rd1 (i:=5) (by kernel_rfl) (.cons rfl (fun K hK=>?_) .nil)
 go_simp
 (go_at_call 158;(refine(HPL.out _ _ _ _ _ [.int .i64 1,.int .i64 n,.string ⟨t.toArray⟩,.string ⟨#[]⟩,.slice p4 0 c4,.int .i64 p] trivial HF.out (by unfold exD;exact Da.row_cons (.int _) (Da.row_cons (.int _) (Da.row_cons (.str _) (Da.row_cons (.str []) (Da.row_cons (HF.out.da 0 _ _ rfl) (Da.row_cons (.int _) (Da.row_nil _ _)))))))).mono ?_);rintro e W3 ⟨rfl,HF1⟩;replace HF:=hid HF1;clear HF1)
 go_simp
 refine hK.out _ _ (fun _=>HF.out) fun hS=>?_;clear hK K
 try simp only [Act.put,zA,z0,z1]
 refine tkM (n:=9) (is:=[6,7]) (k:=2) rfl (by kernel_rfl) hS ?_
 repeat(first|(refine wT (v:=?_) rfl (by rfl) (fun X hX=>?_) ?_;rotate_left 1;(focus(clear hX;go_simp;try with_reducible rfl))));try simp only [Act.put,zA,z0,z1]
 refine wE fun hS=>?_
 refine rd1 (i:=8) (by kernel_rfl) (.cons rfl (fun K hK=>?_) .nil)
 go_simp
 refine hK.out _ _ (fun h=>absurd h (by simp [Fr.setAll])) fun hS=>?_;clear hK K
 try simp only [Act.put,zA,z0,z1]
 refine wpAnyG_done (by kernel_rfl) ?_ _;clear hS
 have⟨e0,e1,e2,e3,e4,e5⟩:=HF.out.c6
 go_wp2_with (first
  | (go_at_call 132;(with_reducible refine(HA.out _ _ _ _ _ 0 _ trivial rfl HF.out).mono ?_);rintro e W3 ⟨rfl,HF1⟩;replace HF:=hid HF1;clear HF1;have⟨e0,e1,e2,e3,e4,e5⟩:=HF.out.c6))
 refine bodyPost_ret (v:=.bool true) (by simp [results,Tryz.results123,go_sem];try rfl) rfl ⟨rfl,HF.out.lessR.less⟩
theorem expr_chr(xs:List Tr.Ex)(n p:Int)(t:List UInt8)(hok:∀ ds∈exDs xs,PrD rowV Gx (fun _=>True) 123 #[] ds)(hlen:xs.length=0)(hpl:PrD rowV Gx (fun _=>True) 158 #[] (exD (.mk 2 n t [] xs p))):PrD rowV Gx (fun _=>True) 123 #[] (exD (.mk 2 n t [] xs p)):=by
 intro w W g R Ds vs _ hF hr
 unfold exD at hr
 obtain⟨c0,_,rfl,h0,hr⟩:=row_inv hr
 obtain⟨c1,_,rfl,h1,hr⟩:=row_inv hr
 obtain⟨c2,_,rfl,h2,hr⟩:=row_inv hr
 obtain⟨c3,_,rfl,h3,hr⟩:=row_inv hr
 obtain⟨c4,_,rfl,h4,hr⟩:=row_inv hr
 obtain⟨c5,_,rfl,h5,hr⟩:=row_inv hr
 obtain rfl:=row_inv0 hr
 obtain rfl:=is_int h0
 obtain rfl:=is_int h1
 obtain rfl:=is_str h2
 obtain rfl:=is_str h3
 obtain rfl:=is_int h5
 clear h0 h1 h2 h3 h5 hr
 have HF:=hid (hF.plus h4)
 have HA:=hid (all_tyE Gx (fun _=>True) (fun _ _ h=>h) 123 #[] eg_exprOf _ (fun ds hd=>Tr.exDs_len6 hd) hok)
 obtain⟨p4,c4,rfl,hl4,hp4⟩:=HF.out.daSlice (m:=0) rfl
 rw [exDs_len']at hl4 hp4 HF ⊢
 rw [hlen]at hl4 hp4 HF ⊢
 have HPL:=hid hpl
 clear hF h4 hok hp4 hpl
 go_enter Tryz.func123,Tryz.ntmps123
 go_wp2_with (first
  | ((with_reducible refine is_box ?_);refine wl_box HF.out rfl rfl ?_;intro bx W1 HF1;replace HF:=hid HF1;clear HF1;have⟨e0,e1,e2,e3,e4,e5⟩:=HF.out.c6))
 clear e0 e1 e2 e3 e4 e5
 replace HF:=hid HF.out.drew
 refine wp_region_G (UpTo 8 (fun X=>Fr.Fm w g Gx X (.blk bx [.int .i64 2,.int .i64 n,.string ⟨t.toArray⟩,.string ⟨#[]⟩,.slice p4 0 c4,.int .i64 p]::R) ((.slice p4 0 c4,Da.D.list 6 (exDs xs))::Ds))) 9 (by kernel_rfl) (by kernel_rfl) (fun _=>HF.out) (fun _ hS=>?_)
 generalize World.drew _=W1 at HF hS ⊢
 refine tkB (n:=9) (is:=[0,1,2,3,4]) [[0],[1],[2],[3],[4]] (k:=5) rfl (by kernel_rfl) hS ?_
 repeat(first|(refine wT (i:=1) (v:=.int .i64 n) rfl (by rfl) (fun X xb=>?_) ?_;(focus(have y:=xb.cellAt 0 rfl 1 rfl;clear xb;go_simp;try with_reducible rfl)))|(refine wT (i:=3) (v:=.string ⟨t.toArray⟩) rfl (by rfl) (fun X xb=>?_) ?_;(focus(have y:=xb.cellAt 0 rfl 2 rfl;clear xb;go_simp;try with_reducible rfl)))|(refine wT (i:=4) (v:=.agg #[.int .i64 2,.int .i64 n,.string ⟨t.toArray⟩,.string ⟨#[]⟩,.slice p4 0 c4,.int .i64 p]) rfl (by rfl) (fun X xb=>?_) ?_;(focus(exact Fr.exec_blk (k:=0) xb rfl rfl rfl Tryz.underlying53 rfl tyE rfl)))|(refine wT (v:=?_) rfl (by rfl) (fun X hX=>?_) ?_;rotate_left 1;(focus(clear hX;go_simp;try with_reducible rfl))));try simp only [Act.put,zA,z0,z1]
 refine wE fun hS=>?_
 refine rd1 (i:=5) (by kernel_rfl) (.cons rfl (fun K hK=>?_) .nil)
 go_simp
 (go_at_call 158;(refine(HPL.out _ _ _ _ _ [.int .i64 2,.int .i64 n,.string ⟨t.toArray⟩,.string ⟨#[]⟩,.slice p4 0 c4,.int .i64 p] trivial HF.out (by unfold exD;exact Da.row_cons (.int _) (Da.row_cons (.int _) (Da.row_cons (.str _) (Da.row_cons (.str []) (Da.row_cons (HF.out.da 0 _ _ rfl) (Da.row_cons (.int _) (Da.row_nil _ _)))))))).mono ?_);rintro e W3 ⟨rfl,HF1⟩;replace HF:=hid HF1;clear HF1)
 go_simp
 refine hK.out _ _ (fun _=>HF.out) fun hS=>?_;clear hK K
 try simp only [Act.put,zA,z0,z1]
 refine tkM (n:=9) (is:=[6,7]) (k:=2) rfl (by kernel_rfl) hS ?_
 repeat(first|(refine wT (v:=?_) rfl (by rfl) (fun X hX=>?_) ?_;rotate_left 1;(focus(clear hX;go_simp;try with_reducible rfl))));try simp only [Act.put,zA,z0,z1]
 refine wE fun hS=>?_
 refine rd1 (i:=8) (by kernel_rfl) (.cons rfl (fun K hK=>?_) .nil)
 go_simp
 refine hK.out _ _ (fun h=>absurd h (by simp [Fr.setAll])) fun hS=>?_;clear hK K
 try simp only [Act.put,zA,z0,z1]
 refine wpAnyG_done (by kernel_rfl) ?_ _;clear hS
 have⟨e0,e1,e2,e3,e4,e5⟩:=HF.out.c6
 go_wp2_with (first
  | (go_at_call 132;(with_reducible refine(HA.out _ _ _ _ _ 0 _ trivial rfl HF.out).mono ?_);rintro e W3 ⟨rfl,HF1⟩;replace HF:=hid HF1;clear HF1;have⟨e0,e1,e2,e3,e4,e5⟩:=HF.out.c6))
 refine bodyPost_ret (v:=.bool true) (by simp [results,Tryz.results123,go_sem];try rfl) rfl ⟨rfl,HF.out.lessR.less⟩
theorem expr_txt(xs:List Tr.Ex)(n p:Int)(t:List UInt8)(hok:∀ ds∈exDs xs,PrD rowV Gx (fun _=>True) 123 #[] ds)(hlen:xs.length=0)(hpl:PrD rowV Gx (fun _=>True) 158 #[] (exD (.mk 3 n t [] xs p))):PrD rowV Gx (fun _=>True) 123 #[] (exD (.mk 3 n t [] xs p)):=by
 intro w W g R Ds vs _ hF hr
 unfold exD at hr
 obtain⟨c0,_,rfl,h0,hr⟩:=row_inv hr
 obtain⟨c1,_,rfl,h1,hr⟩:=row_inv hr
 obtain⟨c2,_,rfl,h2,hr⟩:=row_inv hr
 obtain⟨c3,_,rfl,h3,hr⟩:=row_inv hr
 obtain⟨c4,_,rfl,h4,hr⟩:=row_inv hr
 obtain⟨c5,_,rfl,h5,hr⟩:=row_inv hr
 obtain rfl:=row_inv0 hr
 obtain rfl:=is_int h0
 obtain rfl:=is_int h1
 obtain rfl:=is_str h2
 obtain rfl:=is_str h3
 obtain rfl:=is_int h5
 clear h0 h1 h2 h3 h5 hr
 have HF:=hid (hF.plus h4)
 have HA:=hid (all_tyE Gx (fun _=>True) (fun _ _ h=>h) 123 #[] eg_exprOf _ (fun ds hd=>Tr.exDs_len6 hd) hok)
 obtain⟨p4,c4,rfl,hl4,hp4⟩:=HF.out.daSlice (m:=0) rfl
 rw [exDs_len']at hl4 hp4 HF ⊢
 rw [hlen]at hl4 hp4 HF ⊢
 have HPL:=hid hpl
 clear hF h4 hok hp4 hpl
 go_enter Tryz.func123,Tryz.ntmps123
 go_wp2_with (first
  | ((with_reducible refine is_box ?_);refine wl_box HF.out rfl rfl ?_;intro bx W1 HF1;replace HF:=hid HF1;clear HF1;have⟨e0,e1,e2,e3,e4,e5⟩:=HF.out.c6))
 clear e0 e1 e2 e3 e4 e5
 replace HF:=hid HF.out.drew
 refine wp_region_G (UpTo 8 (fun X=>Fr.Fm w g Gx X (.blk bx [.int .i64 3,.int .i64 n,.string ⟨t.toArray⟩,.string ⟨#[]⟩,.slice p4 0 c4,.int .i64 p]::R) ((.slice p4 0 c4,Da.D.list 6 (exDs xs))::Ds))) 9 (by kernel_rfl) (by kernel_rfl) (fun _=>HF.out) (fun _ hS=>?_)
 generalize World.drew _=W1 at HF hS ⊢
 refine tkB (n:=9) (is:=[0,1,2,3,4]) [[0],[1],[2],[3],[4]] (k:=5) rfl (by kernel_rfl) hS ?_
 repeat(first|(refine wT (i:=1) (v:=.int .i64 n) rfl (by rfl) (fun X xb=>?_) ?_;(focus(have y:=xb.cellAt 0 rfl 1 rfl;clear xb;go_simp;try with_reducible rfl)))|(refine wT (i:=3) (v:=.string ⟨t.toArray⟩) rfl (by rfl) (fun X xb=>?_) ?_;(focus(have y:=xb.cellAt 0 rfl 2 rfl;clear xb;go_simp;try with_reducible rfl)))|(refine wT (i:=4) (v:=.agg #[.int .i64 3,.int .i64 n,.string ⟨t.toArray⟩,.string ⟨#[]⟩,.slice p4 0 c4,.int .i64 p]) rfl (by rfl) (fun X xb=>?_) ?_;(focus(exact Fr.exec_blk (k:=0) xb rfl rfl rfl Tryz.underlying53 rfl tyE rfl)))|(refine wT (v:=?_) rfl (by rfl) (fun X hX=>?_) ?_;rotate_left 1;(focus(clear hX;go_simp;try with_reducible rfl))));try simp only [Act.put,zA,z0,z1]
 refine wE fun hS=>?_
 refine rd1 (i:=5) (by kernel_rfl) (.cons rfl (fun K hK=>?_) .nil)
 go_simp
 (go_at_call 158;(refine(HPL.out _ _ _ _ _ [.int .i64 3,.int .i64 n,.string ⟨t.toArray⟩,.string ⟨#[]⟩,.slice p4 0 c4,.int .i64 p] trivial HF.out (by unfold exD;exact Da.row_cons (.int _) (Da.row_cons (.int _) (Da.row_cons (.str _) (Da.row_cons (.str []) (Da.row_cons (HF.out.da 0 _ _ rfl) (Da.row_cons (.int _) (Da.row_nil _ _)))))))).mono ?_);rintro e W3 ⟨rfl,HF1⟩;replace HF:=hid HF1;clear HF1)
 go_simp
 refine hK.out _ _ (fun _=>HF.out) fun hS=>?_;clear hK K
 try simp only [Act.put,zA,z0,z1]
 refine tkM (n:=9) (is:=[6,7]) (k:=2) rfl (by kernel_rfl) hS ?_
 repeat(first|(refine wT (v:=?_) rfl (by rfl) (fun X hX=>?_) ?_;rotate_left 1;(focus(clear hX;go_simp;try with_reducible rfl))));try simp only [Act.put,zA,z0,z1]
 refine wE fun hS=>?_
 refine rd1 (i:=8) (by kernel_rfl) (.cons rfl (fun K hK=>?_) .nil)
 go_simp
 refine hK.out _ _ (fun h=>absurd h (by simp [Fr.setAll])) fun hS=>?_;clear hK K
 try simp only [Act.put,zA,z0,z1]
 refine wpAnyG_done (by kernel_rfl) ?_ _;clear hS
 have⟨e0,e1,e2,e3,e4,e5⟩:=HF.out.c6
 go_wp2_with (first
  | (go_at_call 132;(with_reducible refine(HA.out _ _ _ _ _ 0 _ trivial rfl HF.out).mono ?_);rintro e W3 ⟨rfl,HF1⟩;replace HF:=hid HF1;clear HF1;have⟨e0,e1,e2,e3,e4,e5⟩:=HF.out.c6))
 refine bodyPost_ret (v:=.bool true) (by simp [results,Tryz.results123,go_sem];try rfl) rfl ⟨rfl,HF.out.lessR.less⟩
theorem expr_bool(xs:List Tr.Ex)(n p:Int)(t:List UInt8)(hok:∀ ds∈exDs xs,PrD rowV Gx (fun _=>True) 123 #[] ds)(hlen:xs.length=0)(hpl:PrD rowV Gx (fun _=>True) 158 #[] (exD (.mk 5 n t [] xs p))):PrD rowV Gx (fun _=>True) 123 #[] (exD (.mk 5 n t [] xs p)):=by
 intro w W g R Ds vs _ hF hr
 unfold exD at hr
 obtain⟨c0,_,rfl,h0,hr⟩:=row_inv hr
 obtain⟨c1,_,rfl,h1,hr⟩:=row_inv hr
 obtain⟨c2,_,rfl,h2,hr⟩:=row_inv hr
 obtain⟨c3,_,rfl,h3,hr⟩:=row_inv hr
 obtain⟨c4,_,rfl,h4,hr⟩:=row_inv hr
 obtain⟨c5,_,rfl,h5,hr⟩:=row_inv hr
 obtain rfl:=row_inv0 hr
 obtain rfl:=is_int h0
 obtain rfl:=is_int h1
 obtain rfl:=is_str h2
 obtain rfl:=is_str h3
 obtain rfl:=is_int h5
 clear h0 h1 h2 h3 h5 hr
 have HF:=hid (hF.plus h4)
 have HA:=hid (all_tyE Gx (fun _=>True) (fun _ _ h=>h) 123 #[] eg_exprOf _ (fun ds hd=>Tr.exDs_len6 hd) hok)
 obtain⟨p4,c4,rfl,hl4,hp4⟩:=HF.out.daSlice (m:=0) rfl
 rw [exDs_len']at hl4 hp4 HF ⊢
 rw [hlen]at hl4 hp4 HF ⊢
 have HPL:=hid hpl
 clear hF h4 hok hp4 hpl
 go_enter Tryz.func123,Tryz.ntmps123
 go_wp2_with (first
  | ((with_reducible refine is_box ?_);refine wl_box HF.out rfl rfl ?_;intro bx W1 HF1;replace HF:=hid HF1;clear HF1;have⟨e0,e1,e2,e3,e4,e5⟩:=HF.out.c6))
 clear e0 e1 e2 e3 e4 e5
 replace HF:=hid HF.out.drew
 refine wp_region_G (UpTo 8 (fun X=>Fr.Fm w g Gx X (.blk bx [.int .i64 5,.int .i64 n,.string ⟨t.toArray⟩,.string ⟨#[]⟩,.slice p4 0 c4,.int .i64 p]::R) ((.slice p4 0 c4,Da.D.list 6 (exDs xs))::Ds))) 9 (by kernel_rfl) (by kernel_rfl) (fun _=>HF.out) (fun _ hS=>?_)
 generalize World.drew _=W1 at HF hS ⊢
 refine tkB (n:=9) (is:=[0,1,2,3,4]) [[0],[1],[2],[3],[4]] (k:=5) rfl (by kernel_rfl) hS ?_
 repeat(first|(refine wT (i:=1) (v:=.int .i64 n) rfl (by rfl) (fun X xb=>?_) ?_;(focus(have y:=xb.cellAt 0 rfl 1 rfl;clear xb;go_simp;try with_reducible rfl)))|(refine wT (i:=3) (v:=.string ⟨t.toArray⟩) rfl (by rfl) (fun X xb=>?_) ?_;(focus(have y:=xb.cellAt 0 rfl 2 rfl;clear xb;go_simp;try with_reducible rfl)))|(refine wT (i:=4) (v:=.agg #[.int .i64 5,.int .i64 n,.string ⟨t.toArray⟩,.string ⟨#[]⟩,.slice p4 0 c4,.int .i64 p]) rfl (by rfl) (fun X xb=>?_) ?_;(focus(exact Fr.exec_blk (k:=0) xb rfl rfl rfl Tryz.underlying53 rfl tyE rfl)))|(refine wT (v:=?_) rfl (by rfl) (fun X hX=>?_) ?_;rotate_left 1;(focus(clear hX;go_simp;try with_reducible rfl))));try simp only [Act.put,zA,z0,z1]
 refine wE fun hS=>?_
 refine rd1 (i:=5) (by kernel_rfl) (.cons rfl (fun K hK=>?_) .nil)
 go_simp
 (go_at_call 158;(refine(HPL.out _ _ _ _ _ [.int .i64 5,.int .i64 n,.string ⟨t.toArray⟩,.string ⟨#[]⟩,.slice p4 0 c4,.int .i64 p] trivial HF.out (by unfold exD;exact Da.row_cons (.int _) (Da.row_cons (.int _) (Da.row_cons (.str _) (Da.row_cons (.str []) (Da.row_cons (HF.out.da 0 _ _ rfl) (Da.row_cons (.int _) (Da.row_nil _ _)))))))).mono ?_);rintro e W3 ⟨rfl,HF1⟩;replace HF:=hid HF1;clear HF1)
 go_simp
 refine hK.out _ _ (fun _=>HF.out) fun hS=>?_;clear hK K
 try simp only [Act.put,zA,z0,z1]
 refine tkM (n:=9) (is:=[6,7]) (k:=2) rfl (by kernel_rfl) hS ?_
 repeat(first|(refine wT (v:=?_) rfl (by rfl) (fun X hX=>?_) ?_;rotate_left 1;(focus(clear hX;go_simp;try with_reducible rfl))));try simp only [Act.put,zA,z0,z1]
 refine wE fun hS=>?_
 refine rd1 (i:=8) (by kernel_rfl) (.cons rfl (fun K hK=>?_) .nil)
 go_simp
 refine hK.out _ _ (fun h=>absurd h (by simp [Fr.setAll])) fun hS=>?_;clear hK K
 try simp only [Act.put,zA,z0,z1]
 refine wpAnyG_done (by kernel_rfl) ?_ _;clear hS
 have⟨e0,e1,e2,e3,e4,e5⟩:=HF.out.c6
 go_wp2_with (first
  | (go_at_call 132;(with_reducible refine(HA.out _ _ _ _ _ 0 _ trivial rfl HF.out).mono ?_);rintro e W3 ⟨rfl,HF1⟩;replace HF:=hid HF1;clear HF1;have⟨e0,e1,e2,e3,e4,e5⟩:=HF.out.c6))
 refine bodyPost_ret (v:=.bool true) (by simp [results,Tryz.results123,go_sem];try rfl) rfl ⟨rfl,HF.out.lessR.less⟩
theorem expr_nil(xs:List Tr.Ex)(p:Int)(hok:∀ ds∈exDs xs,PrD rowV Gx (fun _=>True) 123 #[] ds)(hlen:xs.length=0):PrD rowV Gx (fun _=>True) 123 #[] (exD (.mk 4 0 [] [] xs p)):=by
 intro w W g R Ds vs _ hF hr
 unfold exD at hr
 obtain⟨c0,_,rfl,h0,hr⟩:=row_inv hr
 obtain⟨c1,_,rfl,h1,hr⟩:=row_inv hr
 obtain⟨c2,_,rfl,h2,hr⟩:=row_inv hr
 obtain⟨c3,_,rfl,h3,hr⟩:=row_inv hr
 obtain⟨c4,_,rfl,h4,hr⟩:=row_inv hr
 obtain⟨c5,_,rfl,h5,hr⟩:=row_inv hr
 obtain rfl:=row_inv0 hr
 obtain rfl:=is_int h0
 obtain rfl:=is_int h1
 obtain rfl:=is_str h2
 obtain rfl:=is_str h3
 obtain rfl:=is_int h5
 clear h0 h1 h2 h3 h5 hr
 have HF:=hid (hF.plus h4)
 have HA:=hid (all_tyE Gx (fun _=>True) (fun _ _ h=>h) 123 #[] eg_exprOf _ (fun ds hd=>Tr.exDs_len6 hd) hok)
 obtain⟨p4,c4,rfl,hl4,hp4⟩:=HF.out.daSlice (m:=0) rfl
 rw [exDs_len']at hl4 hp4 HF ⊢
 rw [hlen]at hl4 hp4 HF ⊢
 clear hF h4 hok hp4
 go_enter Tryz.func123,Tryz.ntmps123
 go_wp2_with (first
  | ((with_reducible refine is_box ?_);refine wl_box HF.out rfl rfl ?_;intro bx W1 HF1;replace HF:=hid HF1;clear HF1;have⟨e0,e1,e2,e3,e4,e5⟩:=HF.out.c6)
  | (go_at_call 132;(with_reducible refine(HA.out _ _ _ _ _ 0 _ trivial rfl HF.out).mono ?_);rintro e W3 ⟨rfl,HF1⟩;replace HF:=hid HF1;clear HF1;have⟨e0,e1,e2,e3,e4,e5⟩:=HF.out.c6))
 refine bodyPost_ret (v:=.bool true) (by simp [results,Tryz.results123,go_sem];try rfl) rfl ⟨rfl,HF.out.lessR.less⟩
theorem expr_set(xs:List Tr.Ex)(p:Int)(hok:∀ ds∈exDs xs,PrD rowV Gx (fun _=>True) 138 #[] ds):PrD rowV Gx (fun _=>True) 123 #[] (exD (.mk 6 0 [] [] xs p)):=by
 intro w W g R Ds vs _ hF hr
 unfold exD at hr
 obtain⟨c0,_,rfl,h0,hr⟩:=row_inv hr
 obtain⟨c1,_,rfl,h1,hr⟩:=row_inv hr
 obtain⟨c2,_,rfl,h2,hr⟩:=row_inv hr
 obtain⟨c3,_,rfl,h3,hr⟩:=row_inv hr
 obtain⟨c4,_,rfl,h4,hr⟩:=row_inv hr
 obtain⟨c5,_,rfl,h5,hr⟩:=row_inv hr
 obtain rfl:=row_inv0 hr
 obtain rfl:=is_int h0
 obtain rfl:=is_int h1
 obtain rfl:=is_str h2
 obtain rfl:=is_str h3
 obtain rfl:=is_int h5
 clear h0 h1 h2 h3 h5 hr
 have HF:=hid (hF.plus h4)
 have HA:=hid (all_tyE Gx (fun _=>True) (fun _ _ h=>h) 138 #[] eg_labelOf _ (fun ds hd=>Tr.exDs_len6 hd) hok)
 obtain⟨p4,c4,rfl,hl4,hp4⟩:=HF.out.daSlice (m:=0) rfl
 rw [exDs_len']at hl4 hp4 HF ⊢
 clear hF h4 hok hp4
 go_enter Tryz.func123,Tryz.ntmps123
 go_wp2_with (first
  | ((with_reducible refine is_box ?_);refine wl_box HF.out rfl rfl ?_;intro bx W1 HF1;replace HF:=hid HF1;clear HF1;have⟨e0,e1,e2,e3,e4,e5⟩:=HF.out.c6)
  | (go_at_call 132;(with_reducible refine(HA.out _ _ _ _ _ 0 _ trivial rfl HF.out).mono ?_);rintro e W3 ⟨rfl,HF1⟩;replace HF:=hid HF1;clear HF1;have⟨e0,e1,e2,e3,e4,e5⟩:=HF.out.c6))
 refine bodyPost_ret (v:=.bool true) (by simp [results,Tryz.results123,go_sem];try rfl) rfl ⟨rfl,HF.out.lessR.less⟩
theorem expr_name(xs:List Tr.Ex)(p:Int)(t:List UInt8)(hok:∀ ds∈exDs xs,PrD rowV Gx (fun _=>True) 123 #[] ds)(hlen:xs.length=0)(hn:Tr.NM t):PrD rowV Gx (fun _=>True) 123 #[] (exD (.mk 8 0 t [] xs p)):=by
 intro w W g R Ds vs _ hF hr
 unfold exD at hr
 obtain⟨c0,_,rfl,h0,hr⟩:=row_inv hr
 obtain⟨c1,_,rfl,h1,hr⟩:=row_inv hr
 obtain⟨c2,_,rfl,h2,hr⟩:=row_inv hr
 obtain⟨c3,_,rfl,h3,hr⟩:=row_inv hr
 obtain⟨c4,_,rfl,h4,hr⟩:=row_inv hr
 obtain⟨c5,_,rfl,h5,hr⟩:=row_inv hr
 obtain rfl:=row_inv0 hr
 obtain rfl:=is_int h0
 obtain rfl:=is_int h1
 obtain rfl:=is_str h2
 obtain rfl:=is_str h3
 obtain rfl:=is_int h5
 clear h0 h1 h2 h3 h5 hr
 have HF:=hid (hF.plus h4)
 have HA:=hid (all_tyE Gx (fun _=>True) (fun _ _ h=>h) 123 #[] eg_exprOf _ (fun ds hd=>Tr.exDs_len6 hd) hok)
 obtain⟨p4,c4,rfl,hl4,hp4⟩:=HF.out.daSlice (m:=0) rfl
 rw [exDs_len']at hl4 hp4 HF ⊢
 rw [hlen]at hl4 hp4 HF ⊢
 have HN:=hid hn
 clear hF h4 hok hp4 hn
 go_enter Tryz.func123,Tryz.ntmps123
 go_wp2_with (first
  | ((with_reducible refine is_box ?_);refine wl_box HF.out rfl rfl ?_;intro bx W1 HF1;replace HF:=hid HF1;clear HF1;have⟨e0,e1,e2,e3,e4,e5⟩:=HF.out.c6))
 clear e0 e1 e2 e3 e4 e5
 replace HF:=hid HF.out.drew
 refine wp_region_G (UpTo 6 (fun X=>Fr.Fm w g Gx X (.blk bx [.int .i64 8,.int .i64 0,.string ⟨t.toArray⟩,.string ⟨#[]⟩,.slice p4 0 c4,.int .i64 p]::R) ((.slice p4 0 c4,Da.D.list 6 (exDs xs))::Ds))) 7 (by kernel_rfl) (by kernel_rfl) (fun _=>HF.out) (fun _ hS=>?_)
 generalize World.drew _=W1 at HF hS ⊢
 refine tkB (n:=7) (is:=[0,1,2,3]) [[0],[1],[2],[3]] (k:=4) rfl (by kernel_rfl) hS ?_
 repeat(first|(refine wT (i:=1) (v:=.string ⟨t.toArray⟩) rfl (by rfl) (fun X xb=>?_) ?_;(focus(have y:=xb.cellAt 0 rfl 2 rfl;clear xb;go_simp;try with_reducible rfl)))|(refine wT (i:=3) (v:=.string ⟨t.toArray⟩) rfl (by rfl) (fun X xb=>?_) ?_;(focus(have y:=xb.cellAt 0 rfl 2 rfl;clear xb;go_simp;try with_reducible rfl)))|(refine wT (v:=?_) rfl (by rfl) (fun X hX=>?_) ?_;rotate_left 1;(focus(clear hX;go_simp;try with_reducible rfl))));try simp only [Act.put,zA,z0,z1]
 refine wE fun hS=>?_
 refine rd1 (i:=4) (by kernel_rfl) (.cons rfl (fun K hK=>?_) .nil)
 go_simp
 (go_at_call 81;(with_reducible refine(tname_yes HN.out HF.out).mono ?_);rintro e W3 ⟨rfl,HF1⟩;replace HF:=hid HF1;clear HF1)
 go_simp
 refine hK.out _ _ (fun _=>HF.out) fun hS=>?_;clear hK K
 try simp only [Act.put,zA,z0,z1]
 refine tkM (n:=7) (is:=[5]) (k:=1) rfl (by kernel_rfl) hS ?_
 repeat(first|(refine wT (v:=?_) rfl (by rfl) (fun X hX=>?_) ?_;rotate_left 1;(focus(clear hX;go_simp;try with_reducible rfl))));try simp only [Act.put,zA,z0,z1]
 refine wE fun hS=>?_
 refine rd1 (i:=6) (by kernel_rfl) (.cons rfl (fun K hK=>?_) .nil)
 go_simp
 refine hK.out _ _ (fun h=>absurd h (by simp [Fr.setAll])) fun hS=>?_;clear hK K
 try simp only [Act.put,zA,z0,z1]
 refine wpAnyG_done (by kernel_rfl) ?_ _;clear hS
 have⟨e0,e1,e2,e3,e4,e5⟩:=HF.out.c6
 go_wp2_with (first
  | (go_at_call 132;(with_reducible refine(HA.out _ _ _ _ _ 0 _ trivial rfl HF.out).mono ?_);rintro e W3 ⟨rfl,HF1⟩;replace HF:=hid HF1;clear HF1;have⟨e0,e1,e2,e3,e4,e5⟩:=HF.out.c6))
 refine bodyPost_ret (v:=.bool true) (by simp [results,Tryz.results123,go_sem];try rfl) rfl ⟨rfl,HF.out.lessR.less⟩
theorem expr_dot(xs:List Tr.Ex)(p:Int)(t:List UInt8)(hok:∀ ds∈exDs xs,PrD rowV Gx (fun _=>True) 123 #[] ds)(hlen:xs.length=1)(hn:Tr.NM t)(a0:Tr.Ex)(h0:(exDs xs)[0]?=some (exD a0))(hde:Tr.Des a0):PrD rowV Gx (fun _=>True) 123 #[] (exD (.mk 9 0 t [] xs p)):=by
 intro w W g R Ds vs _ hF hr
 unfold exD at hr
 obtain⟨c0,_,rfl,h0,hr⟩:=row_inv hr
 obtain⟨c1,_,rfl,h1,hr⟩:=row_inv hr
 obtain⟨c2,_,rfl,h2,hr⟩:=row_inv hr
 obtain⟨c3,_,rfl,h3,hr⟩:=row_inv hr
 obtain⟨c4,_,rfl,h4,hr⟩:=row_inv hr
 obtain⟨c5,_,rfl,h5,hr⟩:=row_inv hr
 obtain rfl:=row_inv0 hr
 obtain rfl:=is_int h0
 obtain rfl:=is_int h1
 obtain rfl:=is_str h2
 obtain rfl:=is_str h3
 obtain rfl:=is_int h5
 clear h0 h1 h2 h3 h5 hr
 have HF:=hid (hF.plus h4)
 have HA:=hid (all_tyE Gx (fun _=>True) (fun _ _ h=>h) 123 #[] eg_exprOf _ (fun ds hd=>Tr.exDs_len6 hd) hok)
 obtain⟨p4,c4,rfl,hl4,hp4⟩:=HF.out.daSlice (m:=0) rfl
 rw [exDs_len']at hl4 hp4 HF ⊢
 rw [hlen]at hl4 hp4 HF ⊢
 obtain⟨b4,off4,rfl⟩:=hp4 (by omega)
 have H0:=hid h0
 have HDE:=hid (designs_yes Gx (fun _=>True) a0 hde)
 clear h0 hde
 have HN:=hid hn
 clear hF h4 hok hp4 hn
 go_enter Tryz.func123,Tryz.ntmps123
 go_wp2_with (first
  | ((with_reducible refine is_box ?_);refine wl_box HF.out rfl rfl ?_;intro bx W1 HF1;replace HF:=hid HF1;clear HF1;have⟨e0,e1,e2,e3,e4,e5⟩:=HF.out.c6))
 clear e0 e1 e2 e3 e4 e5
 replace HF:=hid HF.out.drew
 refine wp_region_G (UpTo 7 (fun X=>Fr.Fm w g Gx X (.blk bx [.int .i64 9,.int .i64 0,.string ⟨t.toArray⟩,.string ⟨#[]⟩,.slice (some ⟨b4,off4,none⟩) 1 c4,.int .i64 p]::R) ((.slice (some ⟨b4,off4,none⟩) 1 c4,Da.D.list 6 (exDs xs))::Ds))) 8 (by kernel_rfl) (by kernel_rfl) (fun _=>HF.out) (fun _ hS=>?_)
 generalize World.drew _=W1 at HF hS ⊢
 refine tkB (n:=8) (is:=[0,1,2,3]) [[0],[1],[2],[3]] (k:=4) rfl (by kernel_rfl) hS ?_
 repeat(first|(refine wT (i:=1) (v:=.string ⟨t.toArray⟩) rfl (by rfl) (fun X xb=>?_) ?_;(focus(have y:=xb.cellAt 0 rfl 2 rfl;clear xb;go_simp;try with_reducible rfl)))|(refine wT (i:=3) (v:=.string ⟨t.toArray⟩) rfl (by rfl) (fun X xb=>?_) ?_;(focus(have y:=xb.cellAt 0 rfl 2 rfl;clear xb;go_simp;try with_reducible rfl)))|(refine wT (v:=?_) rfl (by rfl) (fun X hX=>?_) ?_;rotate_left 1;(focus(clear hX;go_simp;try with_reducible rfl))));try simp only [Act.put,zA,z0,z1]
 refine wE fun hS=>?_
 refine rd1 (i:=4) (by kernel_rfl) (.cons rfl (fun K hK=>?_) .nil)
 go_simp
 (go_at_call 81;(with_reducible refine(tname_yes HN.out HF.out).mono ?_);rintro e W3 ⟨rfl,HF1⟩;replace HF:=hid HF1;clear HF1)
 go_simp
 refine hK.out _ _ (fun _=>HF.out) fun hS=>?_;clear hK K
 try simp only [Act.put,zA,z0,z1]
 refine tkM (n:=8) (is:=[5,6]) (k:=2) rfl (by kernel_rfl) hS ?_
 repeat(first|(refine wT (v:=?_) rfl (by rfl) (fun X hX=>?_) ?_;rotate_left 1;(focus(clear hX;go_simp;try with_reducible rfl))));try simp only [Act.put,zA,z0,z1]
 refine wE fun hS=>?_
 refine rd1 (i:=7) (by kernel_rfl) (.cons rfl (fun K hK=>?_) .nil)
 go_simp
 refine hK.out _ _ (fun h=>absurd h (by simp [Fr.setAll])) fun hS=>?_;clear hK K
 try simp only [Act.put,zA,z0,z1]
 refine wpAnyG_done (by kernel_rfl) ?_ _;clear hS
 have⟨e0,e1,e2,e3,e4,e5⟩:=HF.out.c6
 go_wp2_with (first
  | (go_at_call 132;(with_reducible refine(HA.out _ _ _ _ _ 0 _ trivial rfl HF.out).mono ?_);rintro e W3 ⟨rfl,HF1⟩;replace HF:=hid HF1;clear HF1;have⟨e0,e1,e2,e3,e4,e5⟩:=HF.out.c6)
  | ((with_reducible refine Fr.is_loadW (T:=53) ?_);(refine Fr.wl_want (by rfl) ?_);(refine Fr.wl_loadAt 0 HF.out rfl 0 rfl (by first|rfl|omega) H0.out Tryz.underlying53 rfl tyE rfl ?_);intro vs hrow;have HRW:=hid hrow;clear hrow)
  | (go_at_call 135;(refine(HDE.out _ _ _ _ _ _ trivial HF.out HRW.out).mono ?_);rintro e W3 ⟨rfl,HF1⟩;replace HF:=hid HF1;clear HF1))
 refine bodyPost_ret (v:=.bool true) (by simp [results,Tryz.results123,go_sem];try rfl) rfl ⟨rfl,HF.out.lessR.less⟩
theorem expr_index(xs:List Tr.Ex)(p:Int)(hok:∀ ds∈exDs xs,PrD rowV Gx (fun _=>True) 123 #[] ds)(hlen:xs.length=2)(a0:Tr.Ex)(h0:(exDs xs)[0]?=some (exD a0))(hde:Tr.Des a0):PrD rowV Gx (fun _=>True) 123 #[] (exD (.mk 10 0 [] [] xs p)):=by
 intro w W g R Ds vs _ hF hr
 unfold exD at hr
 obtain⟨c0,_,rfl,h0,hr⟩:=row_inv hr
 obtain⟨c1,_,rfl,h1,hr⟩:=row_inv hr
 obtain⟨c2,_,rfl,h2,hr⟩:=row_inv hr
 obtain⟨c3,_,rfl,h3,hr⟩:=row_inv hr
 obtain⟨c4,_,rfl,h4,hr⟩:=row_inv hr
 obtain⟨c5,_,rfl,h5,hr⟩:=row_inv hr
 obtain rfl:=row_inv0 hr
 obtain rfl:=is_int h0
 obtain rfl:=is_int h1
 obtain rfl:=is_str h2
 obtain rfl:=is_str h3
 obtain rfl:=is_int h5
 clear h0 h1 h2 h3 h5 hr
 have HF:=hid (hF.plus h4)
 have HA:=hid (all_tyE Gx (fun _=>True) (fun _ _ h=>h) 123 #[] eg_exprOf _ (fun ds hd=>Tr.exDs_len6 hd) hok)
 obtain⟨p4,c4,rfl,hl4,hp4⟩:=HF.out.daSlice (m:=0) rfl
 rw [exDs_len']at hl4 hp4 HF ⊢
 rw [hlen]at hl4 hp4 HF ⊢
 obtain⟨b4,off4,rfl⟩:=hp4 (by omega)
 have H0:=hid h0
 have HDE:=hid (designs_yes Gx (fun _=>True) a0 hde)
 clear h0 hde
 clear hF h4 hok hp4
 go_enter Tryz.func123,Tryz.ntmps123
 go_wp2_with (first
  | ((with_reducible refine is_box ?_);refine wl_box HF.out rfl rfl ?_;intro bx W1 HF1;replace HF:=hid HF1;clear HF1;have⟨e0,e1,e2,e3,e4,e5⟩:=HF.out.c6)
  | (go_at_call 132;(with_reducible refine(HA.out _ _ _ _ _ 0 _ trivial rfl HF.out).mono ?_);rintro e W3 ⟨rfl,HF1⟩;replace HF:=hid HF1;clear HF1;have⟨e0,e1,e2,e3,e4,e5⟩:=HF.out.c6)
  | ((with_reducible refine Fr.is_loadW (T:=53) ?_);(refine Fr.wl_want (by rfl) ?_);(refine Fr.wl_loadAt 0 HF.out rfl 0 rfl (by first|rfl|omega) H0.out Tryz.underlying53 rfl tyE rfl ?_);intro vs hrow;have HRW:=hid hrow;clear hrow)
  | (go_at_call 135;(refine(HDE.out _ _ _ _ _ _ trivial HF.out HRW.out).mono ?_);rintro e W3 ⟨rfl,HF1⟩;replace HF:=hid HF1;clear HF1))
 refine bodyPost_ret (v:=.bool true) (by simp [results,Tryz.results123,go_sem];try rfl) rfl ⟨rfl,HF.out.lessR.less⟩
theorem expr_deref(xs:List Tr.Ex)(p:Int)(hok:∀ ds∈exDs xs,PrD rowV Gx (fun _=>True) 123 #[] ds)(hlen:xs.length=1)(a0:Tr.Ex)(h0:(exDs xs)[0]?=some (exD a0))(hde:Tr.Des a0):PrD rowV Gx (fun _=>True) 123 #[] (exD (.mk 11 0 [] [] xs p)):=by
 intro w W g R Ds vs _ hF hr
 unfold exD at hr
 obtain⟨c0,_,rfl,h0,hr⟩:=row_inv hr
 obtain⟨c1,_,rfl,h1,hr⟩:=row_inv hr
 obtain⟨c2,_,rfl,h2,hr⟩:=row_inv hr
 obtain⟨c3,_,rfl,h3,hr⟩:=row_inv hr
 obtain⟨c4,_,rfl,h4,hr⟩:=row_inv hr
 obtain⟨c5,_,rfl,h5,hr⟩:=row_inv hr
 obtain rfl:=row_inv0 hr
 obtain rfl:=is_int h0
 obtain rfl:=is_int h1
 obtain rfl:=is_str h2
 obtain rfl:=is_str h3
 obtain rfl:=is_int h5
 clear h0 h1 h2 h3 h5 hr
 have HF:=hid (hF.plus h4)
 have HA:=hid (all_tyE Gx (fun _=>True) (fun _ _ h=>h) 123 #[] eg_exprOf _ (fun ds hd=>Tr.exDs_len6 hd) hok)
 obtain⟨p4,c4,rfl,hl4,hp4⟩:=HF.out.daSlice (m:=0) rfl
 rw [exDs_len']at hl4 hp4 HF ⊢
 rw [hlen]at hl4 hp4 HF ⊢
 obtain⟨b4,off4,rfl⟩:=hp4 (by omega)
 have H0:=hid h0
 have HDE:=hid (designs_yes Gx (fun _=>True) a0 hde)
 clear h0 hde
 clear hF h4 hok hp4
 go_enter Tryz.func123,Tryz.ntmps123
 go_wp2_with (first
  | ((with_reducible refine is_box ?_);refine wl_box HF.out rfl rfl ?_;intro bx W1 HF1;replace HF:=hid HF1;clear HF1;have⟨e0,e1,e2,e3,e4,e5⟩:=HF.out.c6)
  | (go_at_call 132;(with_reducible refine(HA.out _ _ _ _ _ 0 _ trivial rfl HF.out).mono ?_);rintro e W3 ⟨rfl,HF1⟩;replace HF:=hid HF1;clear HF1;have⟨e0,e1,e2,e3,e4,e5⟩:=HF.out.c6)
  | ((with_reducible refine Fr.is_loadW (T:=53) ?_);(refine Fr.wl_want (by rfl) ?_);(refine Fr.wl_loadAt 0 HF.out rfl 0 rfl (by first|rfl|omega) H0.out Tryz.underlying53 rfl tyE rfl ?_);intro vs hrow;have HRW:=hid hrow;clear hrow)
  | (go_at_call 135;(refine(HDE.out _ _ _ _ _ _ trivial HF.out HRW.out).mono ?_);rintro e W3 ⟨rfl,HF1⟩;replace HF:=hid HF1;clear HF1))
 refine bodyPost_ret (v:=.bool true) (by simp [results,Tryz.results123,go_sem];try rfl) rfl ⟨rfl,HF.out.lessR.less⟩
theorem expr_call(xs:List Tr.Ex)(p:Int)(hok:∀ ds∈exDs xs,PrD rowV Gx (fun _=>True) 123 #[] ds)(hpos:(0:Int)<(xs.length:Int))(a0:Tr.Ex)(h0:(exDs xs)[0]?=some (exD a0))(hde:Tr.Des a0):PrD rowV Gx (fun _=>True) 123 #[] (exD (.mk 12 0 [] [] xs p)):=by
 intro w W g R Ds vs _ hF hr
 unfold exD at hr
 obtain⟨c0,_,rfl,h0,hr⟩:=row_inv hr
 obtain⟨c1,_,rfl,h1,hr⟩:=row_inv hr
 obtain⟨c2,_,rfl,h2,hr⟩:=row_inv hr
 obtain⟨c3,_,rfl,h3,hr⟩:=row_inv hr
 obtain⟨c4,_,rfl,h4,hr⟩:=row_inv hr
 obtain⟨c5,_,rfl,h5,hr⟩:=row_inv hr
 obtain rfl:=row_inv0 hr
 obtain rfl:=is_int h0
 obtain rfl:=is_int h1
 obtain rfl:=is_str h2
 obtain rfl:=is_str h3
 obtain rfl:=is_int h5
 clear h0 h1 h2 h3 h5 hr
 have HF:=hid (hF.plus h4)
 have HA:=hid (all_tyE Gx (fun _=>True) (fun _ _ h=>h) 123 #[] eg_exprOf _ (fun ds hd=>Tr.exDs_len6 hd) hok)
 obtain⟨p4,c4,rfl,hl4,hp4⟩:=HF.out.daSlice (m:=0) rfl
 rw [exDs_len']at hl4 hp4 HF ⊢
 obtain⟨b4,off4,rfl⟩:=hp4 (by omega)
 have H0:=hid h0
 have HDE:=hid (designs_yes Gx (fun _=>True) a0 hde)
 clear h0 hde
 clear hF h4 hok hp4
 go_enter Tryz.func123,Tryz.ntmps123
 go_wp2_with (first
  | ((with_reducible refine is_box ?_);refine wl_box HF.out rfl rfl ?_;intro bx W1 HF1;replace HF:=hid HF1;clear HF1;have⟨e0,e1,e2,e3,e4,e5⟩:=HF.out.c6))
 clear e0 e1 e2 e3 e4 e5
 replace HF:=hid HF.out.drew
 refine wp_region_G (UpTo 8 (fun X=>Fr.Fm w g Gx X (.blk bx [.int .i64 12,.int .i64 0,.string ⟨#[]⟩,.string ⟨#[]⟩,.slice (some ⟨b4,off4,none⟩) xs.length c4,.int .i64 p]::R) ((.slice (some ⟨b4,off4,none⟩) xs.length c4,Da.D.list 6 (exDs xs))::Ds))) 9 (by kernel_rfl) (by kernel_rfl) (fun _=>HF.out) (fun _ hS=>?_)
 generalize World.drew _=W1 at HF hS ⊢
 refine tkB (n:=9) (is:=[0,1,2,3,4,5,6,7]) [[0],[1],[2],[3],[4],[5],[6],[7]] (k:=8) rfl (by kernel_rfl) hS ?_
 repeat(first|(refine wT (i:=1) (v:=.slice (some ⟨b4,off4,none⟩) xs.length c4) rfl (by rfl) (fun X xb=>?_) ?_;(focus(have y:=xb.cellAt 0 rfl 4 rfl;clear xb;go_simp;try with_reducible rfl)))|(refine wT (i:=4) (v:=.slice (some ⟨b4,off4,none⟩) xs.length c4) rfl (by rfl) (fun X xb=>?_) ?_;(focus(have y:=xb.cellAt 0 rfl 4 rfl;clear xb;go_simp;try with_reducible rfl)))|(refine wT (v:=?_) rfl (by rfl) (fun X hX=>?_) ?_;rotate_left 1;(focus(clear hX;go_simp;try with_reducible rfl))));try simp only [Act.put,zA,z0,z1]
 refine wE fun hS=>?_
 refine rd1 (i:=8) (by kernel_rfl) (.cons rfl (fun K hK=>?_) .nil)
 go_simp
 refine hK.out _ _ (fun h=>absurd h (by simp [Fr.setAll])) fun hS=>?_;clear hK K
 try simp only [Act.put,zA,z0,z1]
 refine wpAnyG_done (by kernel_rfl) ?_ _;clear hS
 have⟨e0,e1,e2,e3,e4,e5⟩:=HF.out.c6
 go_wp2_with (first
  | (go_at_call 132;(with_reducible refine(HA.out _ _ _ _ _ 0 _ trivial rfl HF.out).mono ?_);rintro e W3 ⟨rfl,HF1⟩;replace HF:=hid HF1;clear HF1;have⟨e0,e1,e2,e3,e4,e5⟩:=HF.out.c6)
  | ((with_reducible refine Fr.is_loadW (T:=53) ?_);(refine Fr.wl_want (by rfl) ?_);(refine Fr.wl_loadAt 0 HF.out rfl 0 rfl (by first|rfl|omega) H0.out Tryz.underlying53 rfl tyE rfl ?_);intro vs hrow;have HRW:=hid hrow;clear hrow)
  | (go_at_call 135;(refine(HDE.out _ _ _ _ _ _ trivial HF.out HRW.out).mono ?_);rintro e W3 ⟨rfl,HF1⟩;replace HF:=hid HF1;clear HF1))
 refine bodyPost_ret (v:=.bool true) (by simp [results,Tryz.results123,go_sem];try rfl) rfl ⟨rfl,HF.out.lessR.less⟩
theorem expr_unary(xs:List Tr.Ex)(p:Int)(o:List UInt8)(hok:∀ ds∈exDs xs,PrD rowV Gx (fun _=>True) 123 #[] ds)(hlen:xs.length=1)(hn:[[43],[45],[126]].contains o=true):PrD rowV Gx (fun _=>True) 123 #[] (exD (.mk 13 0 [] o xs p)):=by
 intro w W g R Ds vs _ hF hr
 unfold exD at hr
 obtain⟨c0,_,rfl,h0,hr⟩:=row_inv hr
 obtain⟨c1,_,rfl,h1,hr⟩:=row_inv hr
 obtain⟨c2,_,rfl,h2,hr⟩:=row_inv hr
 obtain⟨c3,_,rfl,h3,hr⟩:=row_inv hr
 obtain⟨c4,_,rfl,h4,hr⟩:=row_inv hr
 obtain⟨c5,_,rfl,h5,hr⟩:=row_inv hr
 obtain rfl:=row_inv0 hr
 obtain rfl:=is_int h0
 obtain rfl:=is_int h1
 obtain rfl:=is_str h2
 obtain rfl:=is_str h3
 obtain rfl:=is_int h5
 clear h0 h1 h2 h3 h5 hr
 have HF:=hid (hF.plus h4)
 have HA:=hid (all_tyE Gx (fun _=>True) (fun _ _ h=>h) 123 #[] eg_exprOf _ (fun ds hd=>Tr.exDs_len6 hd) hok)
 obtain⟨p4,c4,rfl,hl4,hp4⟩:=HF.out.daSlice (m:=0) rfl
 rw [exDs_len']at hl4 hp4 HF ⊢
 rw [hlen]at hl4 hp4 HF ⊢
 have HN:=hid hn
 clear hF h4 hok hp4 hn
 go_enter Tryz.func123,Tryz.ntmps123
 go_wp2_with (first
  | ((with_reducible refine is_box ?_);refine wl_box HF.out rfl rfl ?_;intro bx W1 HF1;replace HF:=hid HF1;clear HF1;have⟨e0,e1,e2,e3,e4,e5⟩:=HF.out.c6))
 clear e0 e1 e2 e3 e4 e5
 replace HF:=hid HF.out.drew
 refine wp_region_G (UpTo 8 (fun X=>Fr.Fm w g Gx X (.blk bx [.int .i64 13,.int .i64 0,.string ⟨#[]⟩,.string ⟨o.toArray⟩,.slice p4 1 c4,.int .i64 p]::R) ((.slice p4 1 c4,Da.D.list 6 (exDs xs))::Ds))) 9 (by kernel_rfl) (by kernel_rfl) (fun _=>(by first|exact HF.out|exact HF.out.lessR)) (fun _ hS=>?_)
 generalize World.drew _=W1 at HF hS ⊢
 refine tkB (n:=9) (is:=[0,1,3,4]) [[0],[1],[3],[4]] (k:=4) rfl (by kernel_rfl) hS ?_
 repeat(first|(refine wT (i:=1) (v:=.string ⟨o.toArray⟩) rfl (by rfl) (fun X xb=>?_) ?_;(focus(have y:=xb.cellAt 0 rfl 3 rfl;clear xb;go_simp;try with_reducible rfl)))|(refine wT (i:=4) (v:=.string ⟨o.toArray⟩) rfl (by rfl) (fun X xb=>?_) ?_;(focus(have y:=xb.cellAt 0 rfl 3 rfl;clear xb;go_simp;try with_reducible rfl)))|(refine wT (v:=?_) rfl (by rfl) (fun X hX=>?_) ?_;rotate_left 1;(focus(clear hX;go_simp;try with_reducible rfl))));try simp only [Act.put,zA,z0,z1]
 refine wE fun hS=>?_
 refine rd1 (i:=2) (by kernel_rfl) (.cons rfl (fun K hK=>?_) .nil)
 refine(if_pos (by rfl)).mpr ?_
 refine Fr.ow_strs HF.out 3 rfl [[43],[45],[126]] (by decide) (by decide) Tryz.underlying160 Fr.tyStr (parts:=[(0,.string ⟨#[43]⟩),(1,.string ⟨#[45]⟩),(2,.string ⟨#[126]⟩)]) rfl (by kernel_rfl) ?_
 intro bs W2 HF1
 replace HF:=hid HF1;clear HF1
 refine hK.out _ _ (fun _=>(by first|exact HF.out|exact HF.out.lessR)) fun hS=>?_;clear hK K
 try simp only [Act.put,zA,z0,z1]
 refine rd1 (i:=5) (by kernel_rfl) (.cons rfl (fun K hK=>?_) .nil)
 go_simp
 (go_at_call 159;(refine(contains_yes [[43],[45],[126]] o bs 3 HF.out rfl (by decide) HN.out).mono ?_);rintro e W3 ⟨rfl,hw⟩;have hw3:=hw.symm;subst hw3)
 go_simp
 refine hK.out _ _ (fun _=>(by first|exact HF.out|exact HF.out.lessR)) fun hS=>?_;clear hK K
 try simp only [Act.put,zA,z0,z1]
 refine tkM (n:=9) (is:=[6,7]) (k:=2) rfl (by kernel_rfl) hS ?_
 repeat(first|(refine wT (v:=?_) rfl (by rfl) (fun X hX=>?_) ?_;rotate_left 1;(focus(clear hX;go_simp;try with_reducible rfl))));try simp only [Act.put,zA,z0,z1]
 refine wE fun hS=>?_
 refine rd1 (i:=8) (by kernel_rfl) (.cons rfl (fun K hK=>?_) .nil)
 go_simp
 refine hK.out _ _ (fun h=>absurd h (by simp [Fr.setAll])) fun hS=>?_;clear hK K
 try simp only [Act.put,zA,z0,z1]
 refine wpAnyG_done (by kernel_rfl) ?_ _;clear hS
 replace HF:=hid HF.out.lessR
 have⟨e0,e1,e2,e3,e4,e5⟩:=HF.out.c6
 go_wp2_with (first
  | (go_at_call 132;(with_reducible refine(HA.out _ _ _ _ _ 0 _ trivial rfl HF.out).mono ?_);rintro e W3 ⟨rfl,HF1⟩;replace HF:=hid HF1;clear HF1;have⟨e0,e1,e2,e3,e4,e5⟩:=HF.out.c6))
 refine bodyPost_ret (v:=.bool true) (by simp [results,Tryz.results123,go_sem];try rfl) rfl ⟨rfl,HF.out.lessR.less⟩
theorem expr_binary(xs:List Tr.Ex)(p:Int)(o:List UInt8)(hok:∀ ds∈exDs xs,PrD rowV Gx (fun _=>True) 123 #[] ds)(hlen:xs.length=2)(hn:[[61],[35],[60],[60,61],[62],[62,61],[73,78],[73,83],[43],[45],[79,82],[42],[47],[68,73,86],[77,79,68],[38]].contains o=true):PrD rowV Gx (fun _=>True) 123 #[] (exD (.mk 14 0 [] o xs p)):=by
 intro w W g R Ds vs _ hF hr
 unfold exD at hr
 obtain⟨c0,_,rfl,h0,hr⟩:=row_inv hr
 obtain⟨c1,_,rfl,h1,hr⟩:=row_inv hr
 obtain⟨c2,_,rfl,h2,hr⟩:=row_inv hr
 obtain⟨c3,_,rfl,h3,hr⟩:=row_inv hr
 obtain⟨c4,_,rfl,h4,hr⟩:=row_inv hr
 obtain⟨c5,_,rfl,h5,hr⟩:=row_inv hr
 obtain rfl:=row_inv0 hr
 obtain rfl:=is_int h0
 obtain rfl:=is_int h1
 obtain rfl:=is_str h2
 obtain rfl:=is_str h3
 obtain rfl:=is_int h5
 clear h0 h1 h2 h3 h5 hr
 have HF:=hid (hF.plus h4)
 have HA:=hid (all_tyE Gx (fun _=>True) (fun _ _ h=>h) 123 #[] eg_exprOf _ (fun ds hd=>Tr.exDs_len6 hd) hok)
 obtain⟨p4,c4,rfl,hl4,hp4⟩:=HF.out.daSlice (m:=0) rfl
 rw [exDs_len']at hl4 hp4 HF ⊢
 rw [hlen]at hl4 hp4 HF ⊢
 have HN:=hid hn
 clear hF h4 hok hp4 hn
 go_enter Tryz.func123,Tryz.ntmps123
 go_wp2_with (first
  | ((with_reducible refine is_box ?_);refine wl_box HF.out rfl rfl ?_;intro bx W1 HF1;replace HF:=hid HF1;clear HF1;have⟨e0,e1,e2,e3,e4,e5⟩:=HF.out.c6))
 clear e0 e1 e2 e3 e4 e5
 replace HF:=hid HF.out.drew
 refine wp_region_G (UpTo 8 (fun X=>Fr.Fm w g Gx X (.blk bx [.int .i64 14,.int .i64 0,.string ⟨#[]⟩,.string ⟨o.toArray⟩,.slice p4 2 c4,.int .i64 p]::R) ((.slice p4 2 c4,Da.D.list 6 (exDs xs))::Ds))) 9 (by kernel_rfl) (by kernel_rfl) (fun _=>(by first|exact HF.out|exact HF.out.lessR)) (fun _ hS=>?_)
 generalize World.drew _=W1 at HF hS ⊢
 refine tkB (n:=9) (is:=[0,1,3,4]) [[0],[1],[3],[4]] (k:=4) rfl (by kernel_rfl) hS ?_
 repeat(first|(refine wT (i:=1) (v:=.string ⟨o.toArray⟩) rfl (by rfl) (fun X xb=>?_) ?_;(focus(have y:=xb.cellAt 0 rfl 3 rfl;clear xb;go_simp;try with_reducible rfl)))|(refine wT (i:=4) (v:=.string ⟨o.toArray⟩) rfl (by rfl) (fun X xb=>?_) ?_;(focus(have y:=xb.cellAt 0 rfl 3 rfl;clear xb;go_simp;try with_reducible rfl)))|(refine wT (v:=?_) rfl (by rfl) (fun X hX=>?_) ?_;rotate_left 1;(focus(clear hX;go_simp;try with_reducible rfl))));try simp only [Act.put,zA,z0,z1]
 refine wE fun hS=>?_
 refine rd1 (i:=2) (by kernel_rfl) (.cons rfl (fun K hK=>?_) .nil)
 refine(if_pos (by rfl)).mpr ?_
 refine Fr.ow_strs HF.out 16 rfl [[61],[35],[60],[60,61],[62],[62,61],[73,78],[73,83],[43],[45],[79,82],[42],[47],[68,73,86],[77,79,68],[38]] (by decide) (by decide) Tryz.underlying160 Fr.tyStr (parts:=[(0,.string ⟨#[61]⟩),(1,.string ⟨#[35]⟩),(2,.string ⟨#[60]⟩),(3,.string ⟨#[60,61]⟩),(4,.string ⟨#[62]⟩),(5,.string ⟨#[62,61]⟩),(6,.string ⟨#[73,78]⟩),(7,.string ⟨#[73,83]⟩),(8,.string ⟨#[43]⟩),(9,.string ⟨#[45]⟩),(10,.string ⟨#[79,82]⟩),(11,.string ⟨#[42]⟩),(12,.string ⟨#[47]⟩),(13,.string ⟨#[68,73,86]⟩),(14,.string ⟨#[77,79,68]⟩),(15,.string ⟨#[38]⟩)]) rfl (by kernel_rfl) ?_
 intro bs W2 HF1
 replace HF:=hid HF1;clear HF1
 refine hK.out _ _ (fun _=>(by first|exact HF.out|exact HF.out.lessR)) fun hS=>?_;clear hK K
 try simp only [Act.put,zA,z0,z1]
 refine rd1 (i:=5) (by kernel_rfl) (.cons rfl (fun K hK=>?_) .nil)
 go_simp
 (go_at_call 159;(refine(contains_yes [[61],[35],[60],[60,61],[62],[62,61],[73,78],[73,83],[43],[45],[79,82],[42],[47],[68,73,86],[77,79,68],[38]] o bs 16 HF.out rfl (by decide) HN.out).mono ?_);rintro e W3 ⟨rfl,hw⟩;have hw3:=hw.symm;subst hw3)
 go_simp
 refine hK.out _ _ (fun _=>(by first|exact HF.out|exact HF.out.lessR)) fun hS=>?_;clear hK K
 try simp only [Act.put,zA,z0,z1]
 refine tkM (n:=9) (is:=[6,7]) (k:=2) rfl (by kernel_rfl) hS ?_
 repeat(first|(refine wT (v:=?_) rfl (by rfl) (fun X hX=>?_) ?_;rotate_left 1;(focus(clear hX;go_simp;try with_reducible rfl))));try simp only [Act.put,zA,z0,z1]
 refine wE fun hS=>?_
 refine rd1 (i:=8) (by kernel_rfl) (.cons rfl (fun K hK=>?_) .nil)
 go_simp
 refine hK.out _ _ (fun h=>absurd h (by simp [Fr.setAll])) fun hS=>?_;clear hK K
 try simp only [Act.put,zA,z0,z1]
 refine wpAnyG_done (by kernel_rfl) ?_ _;clear hS
 replace HF:=hid HF.out.lessR
 have⟨e0,e1,e2,e3,e4,e5⟩:=HF.out.c6
 go_wp2_with (first
  | (go_at_call 132;(with_reducible refine(HA.out _ _ _ _ _ 0 _ trivial rfl HF.out).mono ?_);rintro e W3 ⟨rfl,HF1⟩;replace HF:=hid HF1;clear HF1;have⟨e0,e1,e2,e3,e4,e5⟩:=HF.out.c6))
 refine bodyPost_ret (v:=.bool true) (by simp [results,Tryz.results123,go_sem];try rfl) rfl ⟨rfl,HF.out.lessR.less⟩
end Go.Proofs.YtlhmkfcbldghfaaGreatDoor
