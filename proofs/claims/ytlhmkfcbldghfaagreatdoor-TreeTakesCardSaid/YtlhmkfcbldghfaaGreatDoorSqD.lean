/- The walks of tree's Same and what it calls,at what holds the same data: they answer true. Conditions: none. -/
import Derived.Test.YtlhmkfcbldghfaaGreatDoorSqA
import Derived.Test.YtlhmkfcbldghfaaGreatDoorSmB
import Derived.Test.YtlhmkfcbldghfaaGreatDoorTrA
import Derived.Test.YtlhmkfcbldghfaaGreatDoorTwY
namespace Go.Proofs.YtlhmkfcbldghfaaGreatDoor
set_option linter.all false
open Go.Lib (hid)
set_option maxRecDepth 1000000
set_option maxHeartbeats 16000000
open Go.RowKit
open Fr (is_bool is_box is_int is_loadW is_str row10 row13 row6 tyT wl_box wl_loadSub wl_want)
open Tr (cnD exD fdD fdDs stD tyD tyDs)
theorem eq_sameExpr(args:Array Value)(X:World):(callFunc 68 args).run Tryz.prog X=.ok (.enter 68 args) X:=by kernel_rfl
theorem eq_sameType(args:Array Value)(X:World):(callFunc 71 args).run Tryz.prog X=.ok (.enter 71 args) X:=by kernel_rfl
theorem eq_sameStat(args:Array Value)(X:World):(callFunc 43 args).run Tryz.prog X=.ok (.enter 43 args) X:=by kernel_rfl
theorem eq_sameProc(args:Array Value)(X:World):(callFunc 41 args).run Tryz.prog X=.ok (.enter 41 args) X:=by kernel_rfl
theorem eq_sameFormals_1(args:Array Value)(X:World):(callFunc 112 args).run Tryz.prog X=.ok (.enter 112 args) X:=by kernel_rfl
theorem eq_sameType_1(args:Array Value)(X:World):(callFunc 110 args).run Tryz.prog X=.ok (.enter 110 args) X:=by kernel_rfl
theorem eq_sameStat_1(args:Array Value)(X:World):(callFunc 77 args).run Tryz.prog X=.ok (.enter 77 args) X:=by kernel_rfl
theorem eq_sameStat_2(args:Array Value)(X:World):(callFunc 79 args).run Tryz.prog X=.ok (.enter 79 args) X:=by kernel_rfl
theorem eq_sameDecls_1(args:Array Value)(X:World):(callFunc 67 args).run Tryz.prog X=.ok (.enter 67 args) X:=by kernel_rfl
theorem eq_sameDecls_2(args:Array Value)(X:World):(callFunc 70 args).run Tryz.prog X=.ok (.enter 70 args) X:=by kernel_rfl
theorem eq_sameDecls_3(args:Array Value)(X:World):(callFunc 73 args).run Tryz.prog X=.ok (.enter 73 args) X:=by kernel_rfl
theorem eq_Same_1(args:Array Value)(X:World):(callFunc 38 args).run Tryz.prog X=.ok (.enter 38 args) X:=by kernel_rfl
namespace Tr
theorem dsEx{Q:List Da.D→Prop}(h:∀ e,Q (exD e))(l:List Ex):∀ ds∈exDs l,Q ds:=by
 intro ds hd
 rw [exDs_map]at hd
 obtain⟨e,_,rfl⟩:=List.mem_map.1 hd
 exact h e
theorem dsTy{Q:List Da.D→Prop}{l:List Ty}(h:∀ e∈l,Q (tyD e)):∀ ds∈tyDs l,Q ds:=by
 intro ds hd
 rw [tyDs_map]at hd
 obtain⟨e,he,rfl⟩:=List.mem_map.1 hd
 exact h e he
theorem dsFd{Q:List Da.D→Prop}{l:List FT}(h:∀ e∈l,Q (fdD e)):∀ ds∈fdDs l,Q ds:=by
 intro ds hd
 rw [fdDs_map]at hd
 obtain⟨e,he,rfl⟩:=List.mem_map.1 hd
 exact h e he
theorem dsMap{α:Type}{f:α→List Da.D}{Q:List Da.D→Prop}{l:List α}(h:∀ e∈l,Q (f e)):∀ ds∈l.map f,Q ds:=by
 intro ds hd
 obtain⟨e,he,rfl⟩:=List.mem_map.1 hd
 exact h e he
theorem dsSt{Q:List Da.D→Prop}{l:List St}(h:∀ e∈l,Q (stD e)):∀ ds∈stDs l,Q ds:=by
 intro ds hd
 rw [stDs_map]at hd
 obtain⟨e,he,rfl⟩:=List.mem_map.1 hd
 exact h e he
theorem dsBl{Q:List Da.D→Prop}{l:List (List St)}(h:∀ e∈l,Q [Da.D.list 6 (stDs e)]):∀ ds∈blDs l,Q ds:=by
 intro ds hd
 rw [blDs_map]at hd
 obtain⟨e,he,rfl⟩:=List.mem_map.1 hd
 exact h e he
theorem lnEx(l:List Ex):∀ ds∈exDs l,ds.length=6:=dsEx (Q:=fun d=>d.length=6) (fun e=>exD_len e) l
theorem lnTy(l:List Ty):∀ ds∈tyDs l,ds.length=10:=dsTy (Q:=fun d=>d.length=10) (fun e _=>tyD_len e)
theorem lnFd(l:List FT):∀ ds∈fdDs l,ds.length=13:=dsFd (Q:=fun d=>d.length=13) (fun e _=>fdD_len e)
theorem lnSt(l:List St):∀ ds∈stDs l,ds.length=6:=dsSt (Q:=fun d=>d.length=6) (fun e _=>stD_len e)
theorem lnBl(l:List (List St)):∀ ds∈blDs l,ds.length=1:=dsBl (Q:=fun d=>d.length=1) (fun _ _=>rfl)
end Tr
theorem sexpr_one(Kp:World→Prop)(k n p:Int)(t o:List UInt8)(xs:List Tr.Ex)(hok:∀ ds∈Tr.exDs xs,PrE rowV Kp 68 ds):PrE rowV Kp 68 (exD (.mk k n t o xs p)):=by
 have HE:=hid (eqf_tyE Kp 68 eq_sameExpr _ (Tr.lnEx xs) hok)
 intro w W g R Ds vs us hF hr hr2
 unfold exD at hr hr2
 obtain⟨a0,a1,a2,a3,a4,a5,rfl,ha0,ha1,ha2,ha3,ha4,ha5⟩:=row6 hr;clear hr
 obtain rfl:=is_str ha2
 obtain rfl:=is_str ha3
 obtain rfl:=is_int ha0
 obtain rfl:=is_int ha1
 obtain rfl:=is_int ha5
 clear ha0 ha1 ha2 ha3 ha5
 obtain⟨b0,b1,b2,b3,b4,b5,rfl,hb0,hb1,hb2,hb3,hb4,hb5⟩:=row6 hr2;clear hr2
 obtain rfl:=is_str hb2
 obtain rfl:=is_str hb3
 obtain rfl:=is_int hb0
 obtain rfl:=is_int hb1
 obtain rfl:=is_int hb5
 clear hb0 hb1 hb2 hb3 hb5
 have HF:=hid ((hF.plus hb4).plus ha4)
 have HM0:=hid trivial
 clear hF ha4 hb4
 clear hok
 go_enter Tryz.func68,Tryz.ntmps68
 go_wp2_with (first
  | (clear HM0;(with_reducible refine is_box ?_);refine wl_box HF.out rfl rfl ?_;intro b1 W1 HF1;replace HF:=hid HF1;clear HF1)
  | ((with_reducible refine is_box ?_);refine wl_box HF.out rfl rfl ?_;intro b2 W1 HF1;replace HF:=hid HF1;clear HF1;have⟨f0,f1,f2,f3,f4,f5⟩:=HF.out.c6;have⟨e0,e1,e2,e3,e4,e5⟩:=HF.out.lessR.c6)
  | (go_at_call 75;(with_reducible refine(HE.out _ _ _ _ _ 0 1 _ _ rfl rfl HF.out).mono ?_);rintro e W3 ⟨rfl,HF1⟩;replace HF:=hid HF1;clear HF1))
 refine bodyPost_ret (v:=.bool true) (by simp [results,Tryz.results68,go_sem];try rfl) rfl ⟨rfl,HF.out.lessR.lessR.less.less⟩
theorem sexpr_yes(Kp:World→Prop)(e:Tr.Ex):PrE rowV Kp 68 (exD e):=by
 have key:∀(n:Nat) (e:Tr.Ex),SizeOf.sizeOf e<n→PrE rowV Kp 68 (exD e):=by
  intro n
  induction n with
  | zero=>intro e h;omega
  | succ n ih =>
   intro e hz
   obtain⟨k,m,t,o,xs,p⟩:=e
   refine sexpr_one Kp k m p t o xs fun ds hd=>?_
   rw [Tr.exDs_map]at hd
   obtain⟨x,hx,rfl⟩:=List.mem_map.1 hd
   have:=List.sizeOf_lt_of_mem hx
   simp only [Tr.Ex.mk.sizeOf_spec]at hz
   exact ih x (by omega)
 exact key _ e (Nat.lt_succ_self _)
theorem sparam_yes(Kp:World→Prop)(x:Tr.FT)(h:PrE rowV Kp 71 (tyD x.2.2.1)):PrE rowV Kp 112 (fdD x):=by
 obtain⟨nn,bb,t,q⟩:=x
 obtain⟨k,m,n,ls,el,ba,fs,ps,rs,p⟩:=t
 intro w W g R Ds vs us hF hr hr2
 unfold fdD tyD at hr hr2
 simp only [List.cons_append,List.nil_append]at hr hr2
 obtain⟨a0,a1,a2,a3,a4,a5,a6,a7,a8,a9,a10,a11,a12,rfl,ha0,ha1,ha2,ha3,ha4,ha5,ha6,ha7,ha8,ha9,ha10,ha11,ha12⟩:=row13 hr;clear hr
 obtain rfl:=is_str ha0
 obtain rfl:=is_str ha3
 obtain rfl:=is_str ha4
 obtain rfl:=is_bool ha1
 obtain rfl:=is_int ha2
 obtain rfl:=is_int ha11
 obtain rfl:=is_int ha12
 clear ha0 ha1 ha2 ha3 ha4 ha11 ha12
 obtain⟨b0,b1,b2,b3,b4,b5,b6,b7,b8,b9,b10,b11,b12,rfl,hb0,hb1,hb2,hb3,hb4,hb5,hb6,hb7,hb8,hb9,hb10,hb11,hb12⟩:=row13 hr2;clear hr2
 obtain rfl:=is_str hb0
 obtain rfl:=is_str hb3
 obtain rfl:=is_str hb4
 obtain rfl:=is_bool hb1
 obtain rfl:=is_int hb2
 obtain rfl:=is_int hb11
 obtain rfl:=is_int hb12
 clear hb0 hb1 hb2 hb3 hb4 hb11 hb12
 have HF:=hid ((((((((((((hF.plus hb10).plus hb9).plus hb8).plus hb7).plus hb6).plus hb5).plus ha10).plus ha9).plus ha8).plus ha7).plus ha6).plus ha5)
 have HM0:=hid trivial
 clear hF ha5 hb5 ha6 hb6 ha7 hb7 ha8 hb8 ha9 hb9 ha10 hb10
 have HX:=hid h
 unfold tyD at HX
 clear h
 go_enter Tryz.func112,Tryz.ntmps112
 go_wp2_with (first
  | (clear HM0;(with_reducible refine is_box ?_);refine wl_box HF.out rfl rfl ?_;intro b1 W1 HF1;replace HF:=hid HF1;clear HF1)
  | ((with_reducible refine is_box ?_);refine wl_box HF.out rfl rfl ?_;intro b2 W1 HF1;replace HF:=hid HF1;clear HF1;have⟨f0,f1⟩:=HF.out.c2;have⟨e0,e1⟩:=HF.out.lessR.c2)
  | ((with_reducible refine is_loadW (T:=123) ?_);(refine wl_want (by rfl) ?_);(first|(refine wl_loadSub 1 HF.out (vs:=[.int .i64 k,.string ⟨m.toArray⟩,.string ⟨n.toArray⟩,a5,a6,a7,a8,a9,a10,.int .i64 p]) rfl rfl rfl Tryz.underlying123 rfl tyT rfl ?_)|(refine wl_loadSub 0 HF.out (vs:=[.int .i64 k,.string ⟨m.toArray⟩,.string ⟨n.toArray⟩,b5,b6,b7,b8,b9,b10,.int .i64 p]) rfl rfl rfl Tryz.underlying123 rfl tyT rfl ?_)))
  | (go_at_call 71;(refine(HX.out _ _ _ _ _ _ _ HF.out (Da.row_cons (.int _) (Da.row_cons (.str _) (Da.row_cons (.str _) (Da.row_cons (HF.out.da 0 _ _ rfl) (Da.row_cons (HF.out.da 1 _ _ rfl) (Da.row_cons (HF.out.da 2 _ _ rfl) (Da.row_cons (HF.out.da 3 _ _ rfl) (Da.row_cons (HF.out.da 4 _ _ rfl) (Da.row_cons (HF.out.da 5 _ _ rfl) (Da.row_cons (.int _) (Da.row_nil _ _))))))))))) (Da.row_cons (.int _) (Da.row_cons (.str _) (Da.row_cons (.str _) (Da.row_cons (HF.out.da 6 _ _ rfl) (Da.row_cons (HF.out.da 7 _ _ rfl) (Da.row_cons (HF.out.da 8 _ _ rfl) (Da.row_cons (HF.out.da 9 _ _ rfl) (Da.row_cons (HF.out.da 10 _ _ rfl) (Da.row_cons (HF.out.da 11 _ _ rfl) (Da.row_cons (.int _) (Da.row_nil _ _)))))))))))).mono ?_);rintro e W3 ⟨rfl,HF1⟩;replace HF:=hid HF1;clear HF1))
 refine bodyPost_ret (v:=.bool true) (by simp [results,Tryz.results112,go_sem];try rfl) rfl ⟨rfl,HF.out.lessR.lessR.less.less.less.less.less.less.less.less.less.less.less.less⟩
theorem sfield_yes(Kp:World→Prop)(x:Tr.FT)(h:PrE rowV Kp 71 (tyD x.2.2.1)):PrE rowV Kp 110 (fdD x):=by
 obtain⟨nn,bb,t,q⟩:=x
 obtain⟨k,m,n,ls,el,ba,fs,ps,rs,p⟩:=t
 intro w W g R Ds vs us hF hr hr2
 unfold fdD tyD at hr hr2
 simp only [List.cons_append,List.nil_append]at hr hr2
 obtain⟨a0,a1,a2,a3,a4,a5,a6,a7,a8,a9,a10,a11,a12,rfl,ha0,ha1,ha2,ha3,ha4,ha5,ha6,ha7,ha8,ha9,ha10,ha11,ha12⟩:=row13 hr;clear hr
 obtain rfl:=is_str ha0
 obtain rfl:=is_str ha3
 obtain rfl:=is_str ha4
 obtain rfl:=is_bool ha1
 obtain rfl:=is_int ha2
 obtain rfl:=is_int ha11
 obtain rfl:=is_int ha12
 clear ha0 ha1 ha2 ha3 ha4 ha11 ha12
 obtain⟨b0,b1,b2,b3,b4,b5,b6,b7,b8,b9,b10,b11,b12,rfl,hb0,hb1,hb2,hb3,hb4,hb5,hb6,hb7,hb8,hb9,hb10,hb11,hb12⟩:=row13 hr2;clear hr2
 obtain rfl:=is_str hb0
 obtain rfl:=is_str hb3
 obtain rfl:=is_str hb4
 obtain rfl:=is_bool hb1
 obtain rfl:=is_int hb2
 obtain rfl:=is_int hb11
 obtain rfl:=is_int hb12
 clear hb0 hb1 hb2 hb3 hb4 hb11 hb12
 have HF:=hid ((((((((((((hF.plus hb10).plus hb9).plus hb8).plus hb7).plus hb6).plus hb5).plus ha10).plus ha9).plus ha8).plus ha7).plus ha6).plus ha5)
 have HM0:=hid trivial
 clear hF ha5 hb5 ha6 hb6 ha7 hb7 ha8 hb8 ha9 hb9 ha10 hb10
 have HX:=hid h
 unfold tyD at HX
 clear h
 go_enter Tryz.func110,Tryz.ntmps110
 go_wp2_with (first
  | (clear HM0;(with_reducible refine is_box ?_);refine wl_box HF.out rfl rfl ?_;intro b1 W1 HF1;replace HF:=hid HF1;clear HF1)
  | ((with_reducible refine is_box ?_);refine wl_box HF.out rfl rfl ?_;intro b2 W1 HF1;replace HF:=hid HF1;clear HF1;have⟨f0,f1⟩:=HF.out.c2;have⟨e0,e1⟩:=HF.out.lessR.c2)
  | ((with_reducible refine is_loadW (T:=123) ?_);(refine wl_want (by rfl) ?_);(first|(refine wl_loadSub 1 HF.out (vs:=[.int .i64 k,.string ⟨m.toArray⟩,.string ⟨n.toArray⟩,a5,a6,a7,a8,a9,a10,.int .i64 p]) rfl rfl rfl Tryz.underlying123 rfl tyT rfl ?_)|(refine wl_loadSub 0 HF.out (vs:=[.int .i64 k,.string ⟨m.toArray⟩,.string ⟨n.toArray⟩,b5,b6,b7,b8,b9,b10,.int .i64 p]) rfl rfl rfl Tryz.underlying123 rfl tyT rfl ?_)))
  | (go_at_call 71;(refine(HX.out _ _ _ _ _ _ _ HF.out (Da.row_cons (.int _) (Da.row_cons (.str _) (Da.row_cons (.str _) (Da.row_cons (HF.out.da 0 _ _ rfl) (Da.row_cons (HF.out.da 1 _ _ rfl) (Da.row_cons (HF.out.da 2 _ _ rfl) (Da.row_cons (HF.out.da 3 _ _ rfl) (Da.row_cons (HF.out.da 4 _ _ rfl) (Da.row_cons (HF.out.da 5 _ _ rfl) (Da.row_cons (.int _) (Da.row_nil _ _))))))))))) (Da.row_cons (.int _) (Da.row_cons (.str _) (Da.row_cons (.str _) (Da.row_cons (HF.out.da 6 _ _ rfl) (Da.row_cons (HF.out.da 7 _ _ rfl) (Da.row_cons (HF.out.da 8 _ _ rfl) (Da.row_cons (HF.out.da 9 _ _ rfl) (Da.row_cons (HF.out.da 10 _ _ rfl) (Da.row_cons (HF.out.da 11 _ _ rfl) (Da.row_cons (.int _) (Da.row_nil _ _)))))))))))).mono ?_);rintro e W3 ⟨rfl,HF1⟩;replace HF:=hid HF1;clear HF1))
 refine bodyPost_ret (v:=.bool true) (by simp [results,Tryz.results110,go_sem];try rfl) rfl ⟨rfl,HF.out.lessR.lessR.less.less.less.less.less.less.less.less.less.less.less.less⟩
theorem stdecl_yes(Kp:World→Prop)(x:Tr.FT)(h:PrE rowV Kp 71 (tyD x.2.2.1)):PrE rowV Kp 70 (fdD x):=by
 obtain⟨nn,bb,t,q⟩:=x
 obtain⟨k,m,n,ls,el,ba,fs,ps,rs,p⟩:=t
 intro w W g R Ds vs us hF hr hr2
 unfold fdD tyD at hr hr2
 simp only [List.cons_append,List.nil_append]at hr hr2
 obtain⟨a0,a1,a2,a3,a4,a5,a6,a7,a8,a9,a10,a11,a12,rfl,ha0,ha1,ha2,ha3,ha4,ha5,ha6,ha7,ha8,ha9,ha10,ha11,ha12⟩:=row13 hr;clear hr
 obtain rfl:=is_str ha0
 obtain rfl:=is_str ha3
 obtain rfl:=is_str ha4
 obtain rfl:=is_bool ha1
 obtain rfl:=is_int ha2
 obtain rfl:=is_int ha11
 obtain rfl:=is_int ha12
 clear ha0 ha1 ha2 ha3 ha4 ha11 ha12
 obtain⟨b0,b1,b2,b3,b4,b5,b6,b7,b8,b9,b10,b11,b12,rfl,hb0,hb1,hb2,hb3,hb4,hb5,hb6,hb7,hb8,hb9,hb10,hb11,hb12⟩:=row13 hr2;clear hr2
 obtain rfl:=is_str hb0
 obtain rfl:=is_str hb3
 obtain rfl:=is_str hb4
 obtain rfl:=is_bool hb1
 obtain rfl:=is_int hb2
 obtain rfl:=is_int hb11
 obtain rfl:=is_int hb12
 clear hb0 hb1 hb2 hb3 hb4 hb11 hb12
 have HF:=hid ((((((((((((hF.plus hb10).plus hb9).plus hb8).plus hb7).plus hb6).plus hb5).plus ha10).plus ha9).plus ha8).plus ha7).plus ha6).plus ha5)
 have HM0:=hid trivial
 clear hF ha5 hb5 ha6 hb6 ha7 hb7 ha8 hb8 ha9 hb9 ha10 hb10
 have HX:=hid h
 unfold tyD at HX
 clear h
 go_enter Tryz.func70,Tryz.ntmps70
 go_wp2_with (first
  | (clear HM0;(with_reducible refine is_box ?_);refine wl_box HF.out rfl rfl ?_;intro b1 W1 HF1;replace HF:=hid HF1;clear HF1)
  | ((with_reducible refine is_box ?_);refine wl_box HF.out rfl rfl ?_;intro b2 W1 HF1;replace HF:=hid HF1;clear HF1;have⟨f0,f1⟩:=HF.out.c2;have⟨e0,e1⟩:=HF.out.lessR.c2)
  | ((with_reducible refine is_loadW (T:=123) ?_);(refine wl_want (by rfl) ?_);(first|(refine wl_loadSub 1 HF.out (vs:=[.int .i64 k,.string ⟨m.toArray⟩,.string ⟨n.toArray⟩,a5,a6,a7,a8,a9,a10,.int .i64 p]) rfl rfl rfl Tryz.underlying123 rfl tyT rfl ?_)|(refine wl_loadSub 0 HF.out (vs:=[.int .i64 k,.string ⟨m.toArray⟩,.string ⟨n.toArray⟩,b5,b6,b7,b8,b9,b10,.int .i64 p]) rfl rfl rfl Tryz.underlying123 rfl tyT rfl ?_)))
  | (go_at_call 71;(refine(HX.out _ _ _ _ _ _ _ HF.out (Da.row_cons (.int _) (Da.row_cons (.str _) (Da.row_cons (.str _) (Da.row_cons (HF.out.da 0 _ _ rfl) (Da.row_cons (HF.out.da 1 _ _ rfl) (Da.row_cons (HF.out.da 2 _ _ rfl) (Da.row_cons (HF.out.da 3 _ _ rfl) (Da.row_cons (HF.out.da 4 _ _ rfl) (Da.row_cons (HF.out.da 5 _ _ rfl) (Da.row_cons (.int _) (Da.row_nil _ _))))))))))) (Da.row_cons (.int _) (Da.row_cons (.str _) (Da.row_cons (.str _) (Da.row_cons (HF.out.da 6 _ _ rfl) (Da.row_cons (HF.out.da 7 _ _ rfl) (Da.row_cons (HF.out.da 8 _ _ rfl) (Da.row_cons (HF.out.da 9 _ _ rfl) (Da.row_cons (HF.out.da 10 _ _ rfl) (Da.row_cons (HF.out.da 11 _ _ rfl) (Da.row_cons (.int _) (Da.row_nil _ _)))))))))))).mono ?_);rintro e W3 ⟨rfl,HF1⟩;replace HF:=hid HF1;clear HF1))
 refine bodyPost_ret (v:=.bool true) (by simp [results,Tryz.results70,go_sem];try rfl) rfl ⟨rfl,HF.out.lessR.lessR.less.less.less.less.less.less.less.less.less.less.less.less⟩
theorem svdecl_yes(Kp:World→Prop)(x:Tr.FT)(h:PrE rowV Kp 71 (tyD x.2.2.1)):PrE rowV Kp 73 (fdD x):=by
 obtain⟨nn,bb,t,q⟩:=x
 obtain⟨k,m,n,ls,el,ba,fs,ps,rs,p⟩:=t
 intro w W g R Ds vs us hF hr hr2
 unfold fdD tyD at hr hr2
 simp only [List.cons_append,List.nil_append]at hr hr2
 obtain⟨a0,a1,a2,a3,a4,a5,a6,a7,a8,a9,a10,a11,a12,rfl,ha0,ha1,ha2,ha3,ha4,ha5,ha6,ha7,ha8,ha9,ha10,ha11,ha12⟩:=row13 hr;clear hr
 obtain rfl:=is_str ha0
 obtain rfl:=is_str ha3
 obtain rfl:=is_str ha4
 obtain rfl:=is_bool ha1
 obtain rfl:=is_int ha2
 obtain rfl:=is_int ha11
 obtain rfl:=is_int ha12
 clear ha0 ha1 ha2 ha3 ha4 ha11 ha12
 obtain⟨b0,b1,b2,b3,b4,b5,b6,b7,b8,b9,b10,b11,b12,rfl,hb0,hb1,hb2,hb3,hb4,hb5,hb6,hb7,hb8,hb9,hb10,hb11,hb12⟩:=row13 hr2;clear hr2
 obtain rfl:=is_str hb0
 obtain rfl:=is_str hb3
 obtain rfl:=is_str hb4
 obtain rfl:=is_bool hb1
 obtain rfl:=is_int hb2
 obtain rfl:=is_int hb11
 obtain rfl:=is_int hb12
 clear hb0 hb1 hb2 hb3 hb4 hb11 hb12
 have HF:=hid ((((((((((((hF.plus hb10).plus hb9).plus hb8).plus hb7).plus hb6).plus hb5).plus ha10).plus ha9).plus ha8).plus ha7).plus ha6).plus ha5)
 have HM0:=hid trivial
 clear hF ha5 hb5 ha6 hb6 ha7 hb7 ha8 hb8 ha9 hb9 ha10 hb10
 have HX:=hid h
 unfold tyD at HX
 clear h
 go_enter Tryz.func73,Tryz.ntmps73
 go_wp2_with (first
  | (clear HM0;(with_reducible refine is_box ?_);refine wl_box HF.out rfl rfl ?_;intro b1 W1 HF1;replace HF:=hid HF1;clear HF1)
  | ((with_reducible refine is_box ?_);refine wl_box HF.out rfl rfl ?_;intro b2 W1 HF1;replace HF:=hid HF1;clear HF1;have⟨f0,f1⟩:=HF.out.c2;have⟨e0,e1⟩:=HF.out.lessR.c2)
  | ((with_reducible refine is_loadW (T:=123) ?_);(refine wl_want (by rfl) ?_);(first|(refine wl_loadSub 1 HF.out (vs:=[.int .i64 k,.string ⟨m.toArray⟩,.string ⟨n.toArray⟩,a5,a6,a7,a8,a9,a10,.int .i64 p]) rfl rfl rfl Tryz.underlying123 rfl tyT rfl ?_)|(refine wl_loadSub 0 HF.out (vs:=[.int .i64 k,.string ⟨m.toArray⟩,.string ⟨n.toArray⟩,b5,b6,b7,b8,b9,b10,.int .i64 p]) rfl rfl rfl Tryz.underlying123 rfl tyT rfl ?_)))
  | (go_at_call 71;(refine(HX.out _ _ _ _ _ _ _ HF.out (Da.row_cons (.int _) (Da.row_cons (.str _) (Da.row_cons (.str _) (Da.row_cons (HF.out.da 0 _ _ rfl) (Da.row_cons (HF.out.da 1 _ _ rfl) (Da.row_cons (HF.out.da 2 _ _ rfl) (Da.row_cons (HF.out.da 3 _ _ rfl) (Da.row_cons (HF.out.da 4 _ _ rfl) (Da.row_cons (HF.out.da 5 _ _ rfl) (Da.row_cons (.int _) (Da.row_nil _ _))))))))))) (Da.row_cons (.int _) (Da.row_cons (.str _) (Da.row_cons (.str _) (Da.row_cons (HF.out.da 6 _ _ rfl) (Da.row_cons (HF.out.da 7 _ _ rfl) (Da.row_cons (HF.out.da 8 _ _ rfl) (Da.row_cons (HF.out.da 9 _ _ rfl) (Da.row_cons (HF.out.da 10 _ _ rfl) (Da.row_cons (HF.out.da 11 _ _ rfl) (Da.row_cons (.int _) (Da.row_nil _ _)))))))))))).mono ?_);rintro e W3 ⟨rfl,HF1⟩;replace HF:=hid HF1;clear HF1))
 refine bodyPost_ret (v:=.bool true) (by simp [results,Tryz.results73,go_sem];try rfl) rfl ⟨rfl,HF.out.lessR.lessR.less.less.less.less.less.less.less.less.less.less.less.less⟩
theorem sformals_yes(Kp:World→Prop)(ps:List Tr.FT)(rs:List Tr.Ty)(hp:∀ ds∈fdDs ps,PrE rowV Kp 112 ds)(hr:∀ ds∈tyDs rs,PrE rowV Kp 71 ds){w W:World}{g:Option Nat}{R:List Fr.RI}{Ds:List (Value × Da.D)}(m1 k1 m2 k2:Nat)(v1 u1 v2 u2:Value)
  (h1:Ds[m1]?=some (v1,.list 13 (fdDs ps))) (h2:Ds[k1]?=some (u1,.list 13 (fdDs ps))) (h3:Ds[m2]?=some (v2,.list 10 (tyDs rs))) (h4:Ds[k2]?=some (u2,.list 10 (tyDs rs))) (hF:Fr.Fm w g Kp W R Ds) :
  Calls Tryz.prog 74 #[v1,u1,v2,u2] W fun e W'=>e=.returned (.bool true)∧Fr.Fm w g Kp W' R Ds:=by
 have HF:=hid hF
 have H1:=hid h1
 have H2:=hid h2
 have H3:=hid h3
 have H4:=hid h4
 have HA:=hid (eqf_tyPa Kp 112 eq_sameFormals_1 _ (Tr.lnFd ps) hp)
 have HB:=hid (eqf_tyT Kp 71 eq_sameType _ (Tr.lnTy rs) hr)
 clear hF h1 h2 h3 h4 hp hr
 go_enter Tryz.func74,Tryz.ntmps74
 go_wp2_with (first
  | (go_at_call 111;(with_reducible refine(HA.out _ _ _ _ _ m1 k1 _ _ H1.out H2.out HF.out).mono ?_);rintro e W3 ⟨rfl,HF1⟩;replace HF:=hid HF1;clear HF1)
  | (go_at_call 108;(with_reducible refine(HB.out _ _ _ _ _ m2 k2 _ _ H3.out H4.out HF.out).mono ?_);rintro e W3 ⟨rfl,HF1⟩;replace HF:=hid HF1;clear HF1))
 refine bodyPost_ret (v:=.bool true) (by simp [results,Tryz.results74,go_sem];try rfl) rfl ⟨rfl,HF.out⟩
theorem stype_one(Kp:World→Prop)(k p:Int)(m n:List UInt8)(ls:List Tr.Ex)(el ba rs:List Tr.Ty)(fs ps:List Tr.FT)(he:∀ ds∈tyDs el,PrE rowV Kp 71 ds)(hb:∀ ds∈tyDs ba,PrE rowV Kp 71 ds)(hrs:∀ ds∈tyDs rs,PrE rowV Kp 71 ds)
  (hf:∀ ds∈fdDs fs,PrE rowV Kp 110 ds) (hp:∀ ds∈fdDs ps,PrE rowV Kp 112 ds):PrE rowV Kp 71 (tyD (.mk k m n ls el ba fs ps rs p)):=by
 have HL:=hid (eqf_tyE Kp 68 eq_sameExpr _ (Tr.lnEx ls) (Tr.dsEx (sexpr_yes Kp) ls))
 have HE:=hid (eqf_tyT Kp 71 eq_sameType _ (Tr.lnTy el) he)
 have HB:=hid (eqf_tyT Kp 71 eq_sameType _ (Tr.lnTy ba) hb)
 have HFD:=hid (eqf_tyF Kp 110 eq_sameType_1 _ (Tr.lnFd fs) hf)
 have HFO:=hid (And.intro hp hrs)
 have HM1:=hid trivial
 intro w W g R Ds vs us hF hr hr2
 unfold tyD at hr hr2
 obtain⟨a0,a1,a2,a3,a4,a5,a6,a7,a8,a9,rfl,ha0,ha1,ha2,ha3,ha4,ha5,ha6,ha7,ha8,ha9⟩:=row10 hr;clear hr
 obtain rfl:=is_str ha1
 obtain rfl:=is_str ha2
 obtain rfl:=is_int ha0
 obtain rfl:=is_int ha9
 clear ha0 ha1 ha2 ha9
 obtain⟨b0,b1,b2,b3,b4,b5,b6,b7,b8,b9,rfl,hb0,hb1,hb2,hb3,hb4,hb5,hb6,hb7,hb8,hb9⟩:=row10 hr2;clear hr2
 obtain rfl:=is_str hb1
 obtain rfl:=is_str hb2
 obtain rfl:=is_int hb0
 obtain rfl:=is_int hb9
 clear hb0 hb1 hb2 hb9
 have HF:=hid ((((((((((((hF.plus hb8).plus hb7).plus hb6).plus hb5).plus hb4).plus hb3).plus ha8).plus ha7).plus ha6).plus ha5).plus ha4).plus ha3)
 have HM0:=hid trivial
 clear hF ha3 hb3 ha4 hb4 ha5 hb5 ha6 hb6 ha7 hb7 ha8 hb8
 clear he hb hrs hf hp
 go_enter Tryz.func71,Tryz.ntmps71
 go_wp2_with (first
  | (clear HM0;(with_reducible refine is_box ?_);refine wl_box HF.out rfl rfl ?_;intro b1 W1 HF1;replace HF:=hid HF1;clear HF1)
  | ((with_reducible refine is_box ?_);refine wl_box HF.out rfl rfl ?_;intro b2 W1 HF1;replace HF:=hid HF1;clear HF1;have⟨f0,f1,f2,f3,f4,f5,f6,f7,f8⟩:=HF.out.c9;have⟨e0,e1,e2,e3,e4,e5,e6,e7,e8⟩:=HF.out.lessR.c9)
  | (go_at_call 75;(with_reducible refine(HL.out _ _ _ _ _ 0 6 _ _ rfl rfl HF.out).mono ?_);rintro e W3 ⟨rfl,HF1⟩;replace HF:=hid HF1;clear HF1;have⟨f0,f1,f2,f3,f4,f5,f6,f7,f8⟩:=HF.out.c9;have⟨e0,e1,e2,e3,e4,e5,e6,e7,e8⟩:=HF.out.lessR.c9)
  | (go_at_call 108;(first|(clear HM1;refine(HE.out _ _ _ _ _ 1 7 _ _ rfl rfl HF.out).mono ?_)|(refine(HB.out _ _ _ _ _ 2 8 _ _ rfl rfl HF.out).mono ?_));rintro e W3 ⟨rfl,HF1⟩;replace HF:=hid HF1;clear HF1;have⟨f0,f1,f2,f3,f4,f5,f6,f7,f8⟩:=HF.out.c9;have⟨e0,e1,e2,e3,e4,e5,e6,e7,e8⟩:=HF.out.lessR.c9)
  | (go_at_call 109;(with_reducible refine(HFD.out _ _ _ _ _ 3 9 _ _ rfl rfl HF.out).mono ?_);rintro e W3 ⟨rfl,HF1⟩;replace HF:=hid HF1;clear HF1;have⟨f0,f1,f2,f3,f4,f5,f6,f7,f8⟩:=HF.out.c9;have⟨e0,e1,e2,e3,e4,e5,e6,e7,e8⟩:=HF.out.lessR.c9)
  | (go_at_call 74;(refine(sformals_yes Kp ps rs HFO.out.1 HFO.out.2 4 10 5 11 _ _ _ _ rfl rfl rfl rfl HF.out).mono ?_);rintro e W3 ⟨rfl,HF1⟩;replace HF:=hid HF1;clear HF1))
 refine bodyPost_ret (v:=.bool true) (by simp [results,Tryz.results71,go_sem];try rfl) rfl ⟨rfl,HF.out.lessR.lessR.less.less.less.less.less.less.less.less.less.less.less.less⟩
theorem stype_yes(Kp:World→Prop)(t:Tr.Ty):PrE rowV Kp 71 (tyD t):=by
 have key:∀(n:Nat) (t:Tr.Ty),SizeOf.sizeOf t<n→PrE rowV Kp 71 (tyD t):=by
  intro n
  induction n with
  | zero=>intro t h;omega
  | succ n ih =>
   intro t hz
   obtain⟨k,m,nm,ls,el,ba,fs,ps,rs,p⟩:=t
   simp only [Tr.Ty.mk.sizeOf_spec]at hz
   have ty:∀ l:List Tr.Ty,SizeOf.sizeOf l<n→∀ ds∈tyDs l,PrE rowV Kp 71 ds:=fun l hl=>Tr.dsTy fun e he=>ih e (by have:=List.sizeOf_lt_of_mem he;omega)
   have fd:∀(f:Tr.FT) (l:List Tr.FT),f∈l→SizeOf.sizeOf l<n→PrE rowV Kp 71 (tyD f.2.2.1):=fun f l hf hl=>ih _ (by
    have h1:=List.sizeOf_lt_of_mem hf
    obtain⟨a,b,c,d⟩:=f
    simp only [Prod.mk.sizeOf_spec]at h1
    show SizeOf.sizeOf c<n
    omega)
   exact stype_one Kp k p m nm ls el ba rs fs ps (ty el (by omega)) (ty ba (by omega)) (ty rs (by omega)) (Tr.dsFd fun f hf=>sfield_yes Kp f (fd f fs hf (by omega))) (Tr.dsFd fun f hf=>sparam_yes Kp f (fd f ps hf (by omega)))
 exact key _ t (Nat.lt_succ_self _)
theorem slab_yes(Kp:World→Prop)(l:List Tr.Ex):PrE oneV Kp 77 [Da.D.list 6 (Tr.exDs l)]:=by
 have HE:=hid (eqf_tyE Kp 68 eq_sameExpr _ (Tr.lnEx l) (Tr.dsEx (sexpr_yes Kp) l))
 intro w W g R Ds vs us hF hr hr2
 obtain⟨v0,_,rfl,h0,hr⟩:=Fr.row_inv hr
 obtain rfl:=Fr.row_inv0 hr
 obtain⟨u0,_,rfl,k0,hr2⟩:=Fr.row_inv hr2
 obtain rfl:=Fr.row_inv0 hr2
 have HF:=hid ((hF.plus k0).plus h0)
 clear hF h0 k0
 show Calls Tryz.prog 77 #[v0,u0] W _
 go_enter Tryz.func77,Tryz.ntmps77
 go_wp2_with (first
  | (go_at_call 75;(with_reducible refine(HE.out _ _ _ _ _ 0 1 _ _ rfl rfl HF.out).mono ?_);rintro e W3 ⟨rfl,HF1⟩;replace HF:=hid HF1;clear HF1))
 refine bodyPost_ret (v:=.bool true) (by simp [results,Tryz.results77,go_sem];try rfl) rfl ⟨rfl,HF.out.less.less⟩
theorem sblk_yes(Kp:World→Prop)(l:List Tr.St)(hok:∀ ds∈Tr.stDs l,PrE rowV Kp 43 ds):PrE oneV Kp 79 [Da.D.list 6 (Tr.stDs l)]:=by
 have HE:=hid (eqf_tyS Kp 43 eq_sameStat _ (Tr.lnSt l) hok)
 intro w W g R Ds vs us hF hr hr2
 obtain⟨v0,_,rfl,h0,hr⟩:=Fr.row_inv hr
 obtain rfl:=Fr.row_inv0 hr
 obtain⟨u0,_,rfl,k0,hr2⟩:=Fr.row_inv hr2
 obtain rfl:=Fr.row_inv0 hr2
 have HF:=hid ((hF.plus k0).plus h0)
 clear hF h0 k0
 show Calls Tryz.prog 79 #[v0,u0] W _
 clear hok
 go_enter Tryz.func79,Tryz.ntmps79
 go_wp2_with (first
  | (go_at_call 42;(with_reducible refine(HE.out _ _ _ _ _ 0 1 _ _ rfl rfl HF.out).mono ?_);rintro e W3 ⟨rfl,HF1⟩;replace HF:=hid HF1;clear HF1))
 refine bodyPost_ret (v:=.bool true) (by simp [results,Tryz.results79,go_sem];try rfl) rfl ⟨rfl,HF.out.less.less⟩
theorem sstat_one(Kp:World→Prop)(k p:Int)(n:List UInt8)(es:List Tr.Ex)(ls:List (List Tr.Ex))(bs:List (List Tr.St))(hb:∀ ds∈Tr.blDs bs,PrE oneV Kp 79 ds):PrE rowV Kp 43 (stD (.mk k n es ls bs p)):=by
 have HE:=hid (eqf_tyE Kp 68 eq_sameExpr _ (Tr.lnEx es) (Tr.dsEx (sexpr_yes Kp) es))
 have HLB:=hid (eqf_tySE Kp 77 eq_sameStat_1 (ls.map fun l=>[Da.D.list 6 (Tr.exDs l)]) (Tr.dsMap (Q:=fun d=>d.length=1) fun _ _=>rfl) (Tr.dsMap fun l _=>slab_yes Kp l))
 have HBK:=hid (eqf_tySS Kp 79 eq_sameStat_2 _ (Tr.lnBl bs) hb)
 intro w W g R Ds vs us hF hr hr2
 unfold stD at hr hr2
 obtain⟨a0,a1,a2,a3,a4,a5,rfl,ha0,ha1,ha2,ha3,ha4,ha5⟩:=row6 hr;clear hr
 obtain rfl:=is_str ha1
 obtain rfl:=is_int ha0
 obtain rfl:=is_int ha5
 clear ha0 ha1 ha5
 obtain⟨b0,b1,b2,b3,b4,b5,rfl,hb0,hb1,hb2,hb3,hb4,hb5⟩:=row6 hr2;clear hr2
 obtain rfl:=is_str hb1
 obtain rfl:=is_int hb0
 obtain rfl:=is_int hb5
 clear hb0 hb1 hb5
 have HF:=hid ((((((hF.plus hb4).plus hb3).plus hb2).plus ha4).plus ha3).plus ha2)
 have HM0:=hid trivial
 clear hF ha2 hb2 ha3 hb3 ha4 hb4
 clear hb
 go_enter Tryz.func43,Tryz.ntmps43
 go_wp2_with (first
  | (clear HM0;(with_reducible refine is_box ?_);refine wl_box HF.out rfl rfl ?_;intro b1 W1 HF1;replace HF:=hid HF1;clear HF1)
  | ((with_reducible refine is_box ?_);refine wl_box HF.out rfl rfl ?_;intro b2 W1 HF1;replace HF:=hid HF1;clear HF1;have⟨f0,f1,f2,f3,f4⟩:=HF.out.c5;have⟨e0,e1,e2,e3,e4⟩:=HF.out.lessR.c5)
  | (go_at_call 75;(with_reducible refine(HE.out _ _ _ _ _ 0 3 _ _ rfl rfl HF.out).mono ?_);rintro e W3 ⟨rfl,HF1⟩;replace HF:=hid HF1;clear HF1;have⟨f0,f1,f2,f3,f4⟩:=HF.out.c5;have⟨e0,e1,e2,e3,e4⟩:=HF.out.lessR.c5)
  | (go_at_call 76;(with_reducible refine(HLB.out _ _ _ _ _ 1 4 _ _ rfl rfl HF.out).mono ?_);rintro e W3 ⟨rfl,HF1⟩;replace HF:=hid HF1;clear HF1;have⟨f0,f1,f2,f3,f4⟩:=HF.out.c5;have⟨e0,e1,e2,e3,e4⟩:=HF.out.lessR.c5)
  | (go_at_call 78;(with_reducible refine(HBK.out _ _ _ _ _ 2 5 _ _ rfl rfl HF.out).mono ?_);rintro e W3 ⟨rfl,HF1⟩;replace HF:=hid HF1;clear HF1))
 refine bodyPost_ret (v:=.bool true) (by simp [results,Tryz.results43,go_sem];try rfl) rfl ⟨rfl,HF.out.lessR.lessR.less.less.less.less.less.less⟩
theorem sstat_yes(Kp:World→Prop)(s:Tr.St):PrE rowV Kp 43 (stD s):=by
 have key:∀(n:Nat) (s:Tr.St),SizeOf.sizeOf s<n→PrE rowV Kp 43 (stD s):=by
  intro n
  induction n with
  | zero=>intro s h;omega
  | succ n ih =>
   intro s hz
   obtain⟨k,nm,es,ls,bs,p⟩:=s
   simp only [Tr.St.mk.sizeOf_spec]at hz
   exact sstat_one Kp k p nm es ls bs (Tr.dsBl fun b hb=>sblk_yes Kp b (Tr.dsSt fun x hx=>ih x (by
    have h1:=List.sizeOf_lt_of_mem hb
    have h2:=List.sizeOf_lt_of_mem hx
    omega)))
 exact key _ s (Nat.lt_succ_self _)
theorem sconst_yes(Kp:World→Prop)(x:List UInt8 × Bool × Tr.Ex × Int):PrE rowV Kp 67 (cnD x):=by
 obtain⟨nn,bb,e,q⟩:=x
 have HX:=hid (sexpr_yes Kp e)
 obtain⟨k,n,t,o,xs,p⟩:=e
 unfold exD at HX
 intro w W g R Ds vs us hF hr hr2
 unfold cnD exD at hr hr2
 simp only [List.cons_append,List.nil_append]at hr hr2
 obtain⟨a0,a1,a2,a3,a4,a5,a6,a7,a8,rfl,ha0,ha1,ha2,ha3,ha4,ha5,ha6,ha7,ha8⟩:=Fr.row9 hr;clear hr
 obtain rfl:=is_str ha0
 obtain rfl:=is_str ha4
 obtain rfl:=is_str ha5
 obtain rfl:=is_bool ha1
 obtain rfl:=is_int ha2
 obtain rfl:=is_int ha3
 obtain rfl:=is_int ha7
 obtain rfl:=is_int ha8
 clear ha0 ha1 ha2 ha3 ha4 ha5 ha7 ha8
 obtain⟨b0,b1,b2,b3,b4,b5,b6,b7,b8,rfl,hb0,hb1,hb2,hb3,hb4,hb5,hb6,hb7,hb8⟩:=Fr.row9 hr2;clear hr2
 obtain rfl:=is_str hb0
 obtain rfl:=is_str hb4
 obtain rfl:=is_str hb5
 obtain rfl:=is_bool hb1
 obtain rfl:=is_int hb2
 obtain rfl:=is_int hb3
 obtain rfl:=is_int hb7
 obtain rfl:=is_int hb8
 clear hb0 hb1 hb2 hb3 hb4 hb5 hb7 hb8
 have HF:=hid ((hF.plus hb6).plus ha6)
 have HM0:=hid trivial
 clear hF ha6 hb6
 go_enter Tryz.func67,Tryz.ntmps67
 go_wp2_with (first
  | (clear HM0;(with_reducible refine is_box ?_);refine wl_box HF.out rfl rfl ?_;intro b1 W1 HF1;replace HF:=hid HF1;clear HF1)
  | ((with_reducible refine is_box ?_);refine wl_box HF.out rfl rfl ?_;intro b2 W1 HF1;replace HF:=hid HF1;clear HF1;have⟨f0,f1⟩:=HF.out.c2;have⟨e0,e1⟩:=HF.out.lessR.c2)
  | ((with_reducible refine is_loadW (T:=53) ?_);(refine wl_want (by rfl) ?_);(first|(refine wl_loadSub 1 HF.out (vs:=[.int .i64 k,.int .i64 n,.string ⟨t.toArray⟩,.string ⟨o.toArray⟩,a6,.int .i64 p]) rfl rfl rfl Tryz.underlying53 rfl Fr.tyE rfl ?_)|(refine wl_loadSub 0 HF.out (vs:=[.int .i64 k,.int .i64 n,.string ⟨t.toArray⟩,.string ⟨o.toArray⟩,b6,.int .i64 p]) rfl rfl rfl Tryz.underlying53 rfl Fr.tyE rfl ?_)))
  | (go_at_call 68;(refine(HX.out _ _ _ _ _ _ _ HF.out (Da.row_cons (.int _) (Da.row_cons (.int _) (Da.row_cons (.str _) (Da.row_cons (.str _) (Da.row_cons (HF.out.da 0 _ _ rfl) (Da.row_cons (.int _) (Da.row_nil _ _))))))) (Da.row_cons (.int _) (Da.row_cons (.int _) (Da.row_cons (.str _) (Da.row_cons (.str _) (Da.row_cons (HF.out.da 1 _ _ rfl) (Da.row_cons (.int _) (Da.row_nil _ _)))))))).mono ?_);rintro e W3 ⟨rfl,HF1⟩;replace HF:=hid HF1;clear HF1))
 refine bodyPost_ret (v:=.bool true) (by simp [results,Tryz.results67,go_sem];try rfl) rfl ⟨rfl,HF.out.lessR.lessR.less.less⟩
theorem sdecls_yes(Kp:World→Prop)(cs:List (List UInt8 × Bool × Tr.Ex × Int))(ts vs:List Tr.FT){w W:World}{g:Option Nat}{R:List Fr.RI}{Ds:List (Value × Da.D)}(m0 m1 m2 m3 m4 m5:Nat)(v0 v1 v2 v3 v4 v5:Value)
  (h0:Ds[m0]?=some (v0,.list 9 (cs.map cnD))) (h1:Ds[m1]?=some (v1,.list 9 (cs.map cnD))) (h2:Ds[m2]?=some (v2,.list 13 (fdDs ts))) (h3:Ds[m3]?=some (v3,.list 13 (fdDs ts))) (h4:Ds[m4]?=some (v4,.list 13 (fdDs vs))) (h5:Ds[m5]?=some (v5,.list 13 (fdDs vs))) (hF:Fr.Fm w g Kp W R Ds) :
  Calls Tryz.prog 39 #[v0,v1,v2,v3,v4,v5] W fun e W'=>e=.returned (.bool true)∧Fr.Fm w g Kp W' R Ds:=by
 have HF:=hid hF
 have H0:=hid h0
 have H1:=hid h1
 have H2:=hid h2
 have H3:=hid h3
 have H4:=hid h4
 have H5:=hid h5
 have HA:=hid (eqf_tyC Kp 67 eq_sameDecls_1 (cs.map cnD) (Tr.dsMap (Q:=fun d=>d.length=9) fun e _=>Tr.cnD_len e) (Tr.dsMap fun x _=>sconst_yes Kp x))
 have HB:=hid (eqf_tyTy Kp 70 eq_sameDecls_2 _ (Tr.lnFd ts) (Tr.dsFd fun x _=>stdecl_yes Kp x (stype_yes Kp _)))
 have HC:=hid (eqf_tyV Kp 73 eq_sameDecls_3 _ (Tr.lnFd vs) (Tr.dsFd fun x _=>svdecl_yes Kp x (stype_yes Kp _)))
 clear hF h0 h1 h2 h3 h4 h5
 go_enter Tryz.func39,Tryz.ntmps39
 go_wp2_with (first
  | (go_at_call 66;(with_reducible refine(HA.out _ _ _ _ _ m0 m1 _ _ H0.out H1.out HF.out).mono ?_);rintro e W3 ⟨rfl,HF1⟩;replace HF:=hid HF1;clear HF1)
  | (go_at_call 69;(with_reducible refine(HB.out _ _ _ _ _ m2 m3 _ _ H2.out H3.out HF.out).mono ?_);rintro e W3 ⟨rfl,HF1⟩;replace HF:=hid HF1;clear HF1)
  | (go_at_call 72;(with_reducible refine(HC.out _ _ _ _ _ m4 m5 _ _ H4.out H5.out HF.out).mono ?_);rintro e W3 ⟨rfl,HF1⟩;replace HF:=hid HF1;clear HF1))
 refine bodyPost_ret (v:=.bool true) (by simp [results,Tryz.results39,go_sem];try rfl) rfl ⟨rfl,HF.out⟩
theorem sproc_yes(Kp:World→Prop)(x:Tr.Pr):PrE rowV Kp 41 (Tr.prD x):=by
 obtain⟨nn,ob,ps,rs,⟨cs,ts,vs0⟩,bd,rt,p⟩:=x
 have HS:=hid (eqf_tyS Kp 43 eq_sameStat _ (Tr.lnSt bd) (Tr.dsSt fun s _=>sstat_yes Kp s))
 have HE:=hid (eqf_tyE Kp 68 eq_sameExpr _ (Tr.lnEx rt) (Tr.dsEx (sexpr_yes Kp) rt))
 have HFO:=hid (And.intro (show ∀ ds∈fdDs ps,PrE rowV Kp 112 ds from Tr.dsFd fun f _=>sparam_yes Kp f (stype_yes Kp _)) (show ∀ ds∈tyDs rs,PrE rowV Kp 71 ds from Tr.dsTy fun t _=>stype_yes Kp t))
 intro w W g R Ds vs us hF hr hr2
 unfold Tr.prD at hr hr2
 obtain⟨a0,a1,a2,a3,a4,a5,a6,a7,a8,a9,rfl,ha0,ha1,ha2,ha3,ha4,ha5,ha6,ha7,ha8,ha9⟩:=row10 hr;clear hr
 obtain rfl:=is_str ha0
 obtain rfl:=is_bool ha1
 obtain rfl:=is_int ha9
 clear ha0 ha1 ha9
 obtain⟨b0,b1,b2,b3,b4,b5,b6,b7,b8,b9,rfl,hb0,hb1,hb2,hb3,hb4,hb5,hb6,hb7,hb8,hb9⟩:=row10 hr2;clear hr2
 obtain rfl:=is_str hb0
 obtain rfl:=is_bool hb1
 obtain rfl:=is_int hb9
 clear hb0 hb1 hb9
 have HF:=hid ((((((((((((((hF.plus hb8).plus hb7).plus hb6).plus hb5).plus hb4).plus hb3).plus hb2).plus ha8).plus ha7).plus ha6).plus ha5).plus ha4).plus ha3).plus ha2)
 have HM0:=hid trivial
 clear hF ha2 hb2 ha3 hb3 ha4 hb4 ha5 hb5 ha6 hb6 ha7 hb7 ha8 hb8
 go_enter Tryz.func41,Tryz.ntmps41
 go_wp2_with (first
  | (clear HM0;(with_reducible refine is_box ?_);refine wl_box HF.out rfl rfl ?_;intro b1 W1 HF1;replace HF:=hid HF1;clear HF1)
  | ((with_reducible refine is_box ?_);refine wl_box HF.out rfl rfl ?_;intro b2 W1 HF1;replace HF:=hid HF1;clear HF1;have⟨f0,f1,f2,f3,f4,f5,f6,f7,f8⟩:=HF.out.c9;have⟨e0,e1,e2,e3,e4,e5,e6,e7,e8⟩:=HF.out.lessR.c9)
  | (go_at_call 74;(refine(sformals_yes Kp ps rs HFO.out.1 HFO.out.2 0 7 1 8 _ _ _ _ rfl rfl rfl rfl HF.out).mono ?_);rintro e W3 ⟨rfl,HF1⟩;replace HF:=hid HF1;clear HF1;have⟨f0,f1,f2,f3,f4,f5,f6,f7,f8⟩:=HF.out.c9;have⟨e0,e1,e2,e3,e4,e5,e6,e7,e8⟩:=HF.out.lessR.c9)
  | (go_at_call 39;(refine(sdecls_yes Kp cs ts vs0 2 9 3 10 4 11 _ _ _ _ _ _ rfl rfl rfl rfl rfl rfl HF.out).mono ?_);rintro e W3 ⟨rfl,HF1⟩;replace HF:=hid HF1;clear HF1;have⟨f0,f1,f2,f3,f4,f5,f6,f7,f8⟩:=HF.out.c9;have⟨e0,e1,e2,e3,e4,e5,e6,e7,e8⟩:=HF.out.lessR.c9)
  | (go_at_call 42;(with_reducible refine(HS.out _ _ _ _ _ 5 12 _ _ rfl rfl HF.out).mono ?_);rintro e W3 ⟨rfl,HF1⟩;replace HF:=hid HF1;clear HF1;have⟨f0,f1,f2,f3,f4,f5,f6,f7,f8⟩:=HF.out.c9;have⟨e0,e1,e2,e3,e4,e5,e6,e7,e8⟩:=HF.out.lessR.c9)
  | (go_at_call 75;(with_reducible refine(HE.out _ _ _ _ _ 6 13 _ _ rfl rfl HF.out).mono ?_);rintro e W3 ⟨rfl,HF1⟩;replace HF:=hid HF1;clear HF1))
 refine bodyPost_ret (v:=.bool true) (by simp [results,Tryz.results41,go_sem];try rfl) rfl ⟨rfl,HF.out.lessR.lessR.less.less.less.less.less.less.less.less.less.less.less.less.less.less⟩
theorem simport_yes(Kp:World→Prop)(x:List UInt8 × List UInt8 × Int):PrE rowV Kp 38 (Tr.imD x):=by
 obtain⟨a,b,p⟩:=x
 intro w W g R Ds vs us hF hr hr2
 unfold Tr.imD at hr hr2
 simp only at hr hr2
 obtain⟨a0,a1,a2,rfl,ha0,ha1,ha2⟩:=Fr.row3 hr;clear hr
 obtain rfl:=is_str ha0
 obtain rfl:=is_str ha1
 obtain rfl:=is_int ha2
 clear ha0 ha1 ha2
 obtain⟨b0,b1,b2,rfl,hb0,hb1,hb2⟩:=Fr.row3 hr2;clear hr2
 obtain rfl:=is_str hb0
 obtain rfl:=is_str hb1
 obtain rfl:=is_int hb2
 clear hb0 hb1 hb2
 have HF:=hid hF
 have HM0:=hid trivial
 clear hF
 go_enter Tryz.func38,Tryz.ntmps38
 go_wp2_with (first
  | (clear HM0;(with_reducible refine is_box ?_);refine wl_box HF.out rfl rfl ?_;intro b1 W1 HF1;replace HF:=hid HF1;clear HF1)
  | ((with_reducible refine is_box ?_);refine wl_box HF.out rfl rfl ?_;intro b2 W1 HF1;replace HF:=hid HF1;clear HF1;have⟨f0,f1⟩:=HF.out.c2;have⟨e0,e1⟩:=HF.out.lessR.c2))
 refine bodyPost_ret (v:=.bool true) (by simp [results,Tryz.results38,go_sem];try rfl) rfl ⟨rfl,HF.out.lessR.lessR⟩
theorem same_self(M:Tr.Mo){w W:World}{g:Option Nat}{Kp:World→Prop}{R:List Fr.RI}{Ds:List (Value × Da.D)}(v1 v2 v3 v4 v5 v6:Value)(ps:Int)(hF:Fr.Fm w g Kp W R (Tr.moDs M v1 v2 v3 v4 v5 v6 Ds)) :
  Calls Tryz.prog 13 #[.agg #[.string ⟨M.name.toArray⟩,v1,v2,v3,v4,v5,v6,.int .i64 ps],.agg #[.string ⟨M.name.toArray⟩,v1,v2,v3,v4,v5,v6,.int .i64 ps]] W fun e W'=>e=.returned (.bool true)∧Fr.Fm w g Kp W' R (Tr.moDs M v1 v2 v3 v4 v5 v6 Ds):=by
 obtain⟨mn,ims,⟨cs,ts,vs⟩,prs,mb,mp⟩:=M
 have HF:=hid hF
 have HM0:=hid trivial
 have HI:=hid (eqf_tyI Kp 38 eq_Same_1 (ims.map Tr.imD) (Tr.dsMap (Q:=fun d=>d.length=3) fun _ _=>rfl) (Tr.dsMap fun x _=>simport_yes Kp x))
 have HP:=hid (eqf_tyPr Kp 41 eq_sameProc (prs.map Tr.prD) (Tr.dsMap (Q:=fun d=>d.length=10) fun _ _=>rfl) (Tr.dsMap fun x _=>sproc_yes Kp x))
 have HS:=hid (eqf_tyS Kp 43 eq_sameStat _ (Tr.lnSt mb) (Tr.dsSt fun s _=>sstat_yes Kp s))
 clear hF
 go_enter Tryz.func13,Tryz.ntmps13
 go_wp2_with (first
  | (clear HM0;(with_reducible refine is_box ?_);refine wl_box HF.out rfl rfl ?_;intro b1 W1 HF1;replace HF:=hid HF1;clear HF1)
  | ((with_reducible refine is_box ?_);refine wl_box HF.out rfl rfl ?_;intro b2 W1 HF1;replace HF:=hid HF1;clear HF1;have⟨f0,f1,f2,f3,f4,f5,f6⟩:=HF.out.c7;have⟨e0,e1,e2,e3,e4,e5,e6⟩:=HF.out.lessR.c7)
  | (go_at_call 37;(refine(HI.out _ _ _ _ _ 0 0 _ _ rfl rfl HF.out).mono ?_);rintro e W3 ⟨rfl,HF1⟩;replace HF:=hid HF1;clear HF1;have⟨f0,f1,f2,f3,f4,f5,f6⟩:=HF.out.c7;have⟨e0,e1,e2,e3,e4,e5,e6⟩:=HF.out.lessR.c7)
  | (go_at_call 39;(refine(sdecls_yes Kp cs ts vs 1 1 2 2 3 3 _ _ _ _ _ _ rfl rfl rfl rfl rfl rfl HF.out).mono ?_);rintro e W3 ⟨rfl,HF1⟩;replace HF:=hid HF1;clear HF1;have⟨f0,f1,f2,f3,f4,f5,f6⟩:=HF.out.c7;have⟨e0,e1,e2,e3,e4,e5,e6⟩:=HF.out.lessR.c7)
  | (go_at_call 40;(refine(HP.out _ _ _ _ _ 4 4 _ _ rfl rfl HF.out).mono ?_);rintro e W3 ⟨rfl,HF1⟩;replace HF:=hid HF1;clear HF1;have⟨f0,f1,f2,f3,f4,f5,f6⟩:=HF.out.c7;have⟨e0,e1,e2,e3,e4,e5,e6⟩:=HF.out.lessR.c7)
  | (go_at_call 42;(refine(HS.out _ _ _ _ _ 5 5 _ _ rfl rfl HF.out).mono ?_);rintro e W3 ⟨rfl,HF1⟩;replace HF:=hid HF1;clear HF1))
 refine bodyPost_ret (v:=.bool true) (by simp [results,Tryz.results13,go_sem];try rfl) rfl ⟨rfl,HF.out.lessR.lessR⟩
end Go.Proofs.YtlhmkfcbldghfaaGreatDoor
