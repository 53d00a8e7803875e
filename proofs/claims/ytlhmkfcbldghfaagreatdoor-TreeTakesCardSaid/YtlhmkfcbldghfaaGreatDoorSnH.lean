/- The walks of tree's statOf,declsOf,procOf,moduleOf and Check: they answer true where what is asked may have been read. The walk of Size. Conditions: the library's variables are as they were laid. -/
import Derived.Test.YtlhmkfcbldghfaaGreatDoorSnG
import Derived.Test.YtlhmkfcbldghfaaGreatDoorSnC
namespace Go.Proofs.YtlhmkfcbldghfaaGreatDoor
set_option linter.all false
open Go.Lib (hid)
set_option maxRecDepth 1000000
set_option maxHeartbeats 16000000
open Go.RowKit
open Fr (tkB tkM wT wN wE)
open Fr (exDs_len' is_box is_int is_str row6 wl_box)
open Tr (blDs exDs stD)
namespace Tr
theorem stDs_mem{l:List St}{Q:List Da.D→Prop}(h:∀ e∈l,Q (stD e)):∀ ds∈stDs l,Q ds:=by
 intro ds hd
 rw [stDs_map]at hd
 obtain⟨e,he,rfl⟩:=List.mem_map.1 hd
 exact h e he
theorem stDs_len6{l:List St}{ds:List Da.D}(h:ds∈stDs l):ds.length=6:=stDs_mem (Q:=fun d=>d.length=6) (fun e _=>stD_len e) ds h
theorem blDs_length(l:List (List St)):(blDs l).length=l.length:=by rw [blDs_map,List.length_map]
theorem blDs_mem{l:List (List St)}{Q:List Da.D→Prop}(h:∀ b∈l,Q [Da.D.list 6 (stDs b)]):∀ ds∈blDs l,Q ds:=by
 intro ds hd
 rw [blDs_map]at hd
 obtain⟨e,he,rfl⟩:=List.mem_map.1 hd
 exact h e he
theorem map_mem{α:Type}{f:α→List Da.D}{l:List α}{Q:List Da.D→Prop}(h:∀ b∈l,Q (f b)):∀ ds∈l.map f,Q ds:=by
 intro ds hd
 obtain⟨e,he,rfl⟩:=List.mem_map.1 hd
 exact h e he
end Tr
theorem labs_yes(l:List Tr.Ex)(hne:l ≠ [])(hok:∀ e∈l,Tr.WL Tr.WE e):PrD oneV Gx (fun _=>True) 137 #[] [Da.D.list 6 (exDs l)]:=by
 intro w W g R Ds vs _ hF hr
 obtain⟨v0,_,rfl,h0,hr⟩:=Fr.row_inv hr
 obtain rfl:=Fr.row_inv0 hr
 have HF:=hid (hF.plus h0)
 have hok2:∀ ds∈exDs l,PrD rowV Gx (fun _=>True) 138 #[] ds:=Tr.exDs_mem fun e he=>lab_yes e (hok e he)
 have HA:=hid (all_tyE Gx (fun _=>True) (fun _ _ h=>h) 138 #[] eg_labelOf _ (fun ds hd=>Tr.exDs_len6 hd) hok2)
 obtain⟨p2,c2,rfl,-,-⟩:=HF.out.daSlice (m:=0) rfl
 simp only [exDs_len']at HF
 have hpos:(0:Int)<(l.length:Int):=by
  cases l with
  | nil=>exact absurd rfl hne
  | cons a l=>simp only [List.length_cons];omega
 clear hF h0 hok hok2 hne
 show Calls Tryz.prog 137 #[.slice p2 _ c2] W _
 rw [exDs_len']
 go_enter Tryz.func137,Tryz.ntmps137
 go_wp2_with (first
  | (go_at_call 132;(with_reducible refine(HA.out _ _ _ _ _ 0 _ trivial rfl HF.out).mono ?_);rintro e W3 ⟨rfl,HF1⟩;replace HF:=hid HF1;clear HF1))
 refine bodyPost_ret (v:=.bool true) (by simp [results,Tryz.results137,go_sem];try rfl) rfl ⟨rfl,HF.out.less⟩
theorem blk_yes(l:List Tr.St)(hok:∀ ds∈Tr.stDs l,PrD rowV Gx (fun _=>True) 88 #[] ds):PrD oneV Gx (fun _=>True) 140 #[] [Da.D.list 6 (Tr.stDs l)]:=by
 intro w W g R Ds vs _ hF hr
 obtain⟨v0,_,rfl,h0,hr⟩:=Fr.row_inv hr
 obtain rfl:=Fr.row_inv0 hr
 have HF:=hid (hF.plus h0)
 have HA:=hid (all_tyS Gx (fun _=>True) (fun _ _ h=>h) 88 #[] eg_statOf _ (fun ds hd=>Tr.stDs_len6 hd) hok)
 clear hF h0 hok
 show Calls Tryz.prog 140 #[v0] W _
 go_enter Tryz.func140,Tryz.ntmps140
 go_wp2_with (first
  | (go_at_call 87;(with_reducible refine(HA.out _ _ _ _ _ 0 _ trivial rfl HF.out).mono ?_);rintro e W3 ⟨rfl,HF1⟩;replace HF:=hid HF1;clear HF1))
 refine bodyPost_ret (v:=.bool true) (by simp [results,Tryz.results140,go_sem];try rfl) rfl ⟨rfl,HF.out.less⟩
theorem Tr.one_len{l:List (List Tr.St)}{ds:List Da.D}(h:ds∈blDs l):ds.length=1:=Tr.blDs_mem (Q:=fun d=>d.length=1) (fun _ _=>rfl) ds h
theorem Tr.one_len2{l:List (List Tr.Ex)}{ds:List Da.D}(h:ds∈l.map fun l=>[Da.D.list 6 (exDs l)]):ds.length=1:=Tr.map_mem (Q:=fun d=>d.length=1) (fun _ _=>rfl) ds h
theorem stat_asg(d e:Tr.Ex)(p:Int)(hd:Tr.Des d)(he:∀ ds∈exDs [d,e],PrD rowV Gx (fun _=>True) 123 #[] ds)(hb:∀ ds∈blDs [],PrD oneV Gx (fun _=>True) 140 #[] ds):PrD rowV Gx (fun _=>True) 88 #[] (stD (.mk 1 [] [d,e] [] [] p)):=by
 intro w W g R Ds vs _ hF hr
 unfold stD at hr
 obtain⟨a0,a1,a2,a3,a4,a5,rfl,ha0,ha1,ha2,ha3,ha4,ha5⟩:=row6 hr;clear hr
 obtain rfl:=is_str ha1
 obtain rfl:=is_int ha0
 obtain rfl:=is_int ha5
 clear ha0 ha1 ha5
 have HF:=hid (((hF.plus ha4).plus ha3).plus ha2)
 have HE:=hid (all_tyE Gx (fun _=>True) (fun _ _ h=>h) 123 #[] eg_exprOf _ (fun ds hd=>Tr.exDs_len6 hd) he)
 have HBK:=hid (all_tySS Gx (fun _=>True) (fun _ _ h=>h) 140 #[] eg_statOf_2 _ (fun ds hd=>Tr.one_len hd) hb)
 clear he hb
 have HDE:=hid (designs_yes Gx (fun _=>True) d hd)
 have H0:=hid (show(exDs ([d,e]))[0]?=some (Tr.exD d)by simp [exDs])
 clear hd
 obtain⟨p2,c2,rfl,hl2,hp2⟩:=HF.out.daSlice (m:=0) rfl
 obtain⟨p3,c3,rfl,hl3,hp3⟩:=HF.out.daSlice (m:=1) rfl
 obtain⟨p4,c4,rfl,hl4,hp4⟩:=HF.out.daSlice (m:=2) rfl
 simp only [List.length_cons,List.length_nil,Nat.zero_add,Nat.reduceAdd,exDs_len',List.length_map,Tr.blDs_length]at HF hp2 hl2 hl3 hl4 ⊢
 obtain⟨b2,o2,rfl⟩:=hp2 (by omega)
 clear hF ha2 ha3 ha4 hp2 hp3 hp4
 go_enter Tryz.func88,Tryz.ntmps88
 go_wp2_with (first
  | ((with_reducible refine is_box ?_);refine wl_box HF.out rfl rfl ?_;intro bx W1 HF1;replace HF:=hid HF1;clear HF1;skip))
 replace HF:=hid HF.out.drew
 refine wp_region_G (UpTo 11 (fun X=>Fr.Fm w g Gx X (.blk bx [.int .i64 1,.string ⟨#[]⟩,.slice (some ⟨b2,o2,none⟩) 2 c2,.slice p3 0 c3,.slice p4 0 c4,.int .i64 p]::R) ((.slice (some ⟨b2,o2,none⟩) 2 c2,Da.D.list 6 (exDs [d,e]))::(.slice p3 0 c3,Da.D.list 1 ([].map fun l=>[Da.D.list 6 (exDs l)]))::(.slice p4 0 c4,Da.D.list 1 (blDs []))::Ds))) 12 (by kernel_rfl) (by kernel_rfl) (fun _=>HF.out) (fun _ hS=>?_)
 generalize World.drew _=W1 at HF hS ⊢
 refine tkB (n:=12) (is:=[0,1,2,3,4,5,6,7,8,9,10]) [[0],[1],[2],[3],[4],[5],[6],[7],[8],[9],[10]] (k:=11) rfl (by kernel_rfl) hS ?_
 repeat(first|(refine wT (i:=1) (v:=.slice (some ⟨b2,o2,none⟩) 2 c2) rfl (by rfl) (fun X xb=>?_) ?_;(focus(have y:=xb.cellAt 0 rfl 2 rfl;clear xb;go_simp;try with_reducible rfl)))|(refine wT (i:=4) (v:=.slice p4 0 c4) rfl (by rfl) (fun X xb=>?_) ?_;(focus(have y:=xb.cellAt 0 rfl 4 rfl;clear xb;go_simp;try with_reducible rfl)))|(refine wT (i:=7) (v:=.slice p3 0 c3) rfl (by rfl) (fun X xb=>?_) ?_;(focus(have y:=xb.cellAt 0 rfl 3 rfl;clear xb;go_simp;try with_reducible rfl)))|(refine wT (v:=?_) rfl (by rfl) (fun X hX=>?_) ?_;rotate_left 1;(focus(clear hX;go_simp;try with_reducible rfl))));try simp only [Act.put,zA,z0,z1]
 refine wE fun hS=>?_
 refine rd1 (i:=11) (by kernel_rfl) (.cons rfl (fun K hK=>?_) .nil)
 go_simp
 refine hK.out _ _ (fun h=>absurd h (by simp [Fr.setAll])) fun hS=>?_;clear hK K
 try simp only [Act.put,zA,z0,z1]
 refine wpAnyG_done (by kernel_rfl) ?_ _;clear hS
 have⟨e0,e1,e2,e3,e4⟩:=HF.out.c5
 go_wp2_with (first
  | ((with_reducible refine Fr.is_loadW (T:=53) ?_);(refine Fr.wl_want (by rfl) ?_);(refine Fr.wl_loadAt 0 HF.out rfl 0 rfl (by first|rfl|omega) H0.out Tryz.underlying53 rfl Fr.tyE rfl ?_);intro vs hrow;have HRW:=hid hrow;clear hrow)
  | (go_at_call 135;(refine(HDE.out _ _ _ _ _ _ trivial HF.out HRW.out).mono ?_);rintro e W3 ⟨rfl,HF1⟩;replace HF:=hid HF1;clear HF1;have⟨e0,e1,e2,e3,e4⟩:=HF.out.c5)
  | (go_at_call 132;(with_reducible refine(HE.out _ _ _ _ _ 0 _ trivial rfl HF.out).mono ?_);rintro e W3 ⟨rfl,HF1⟩;replace HF:=hid HF1;clear HF1;have⟨e0,e1,e2,e3,e4⟩:=HF.out.c5)
  | (go_at_call 139;(with_reducible refine(HBK.out _ _ _ _ _ 2 _ trivial rfl HF.out).mono ?_);rintro e W3 ⟨rfl,HF1⟩;replace HF:=hid HF1;clear HF1;have⟨e0,e1,e2,e3,e4⟩:=HF.out.c5))
 refine bodyPost_ret (v:=.bool true) (by simp [results,Tryz.results88,go_sem];try rfl) rfl ⟨rfl,HF.out.lessR.less.less.less⟩
theorem stat_call(d:Tr.Ex)(p:Int)(hd:Tr.Des d)(he:∀ ds∈exDs [d],PrD rowV Gx (fun _=>True) 123 #[] ds)(hb:∀ ds∈blDs [],PrD oneV Gx (fun _=>True) 140 #[] ds):PrD rowV Gx (fun _=>True) 88 #[] (stD (.mk 2 [] [d] [] [] p)):=by
 intro w W g R Ds vs _ hF hr
 unfold stD at hr
 obtain⟨a0,a1,a2,a3,a4,a5,rfl,ha0,ha1,ha2,ha3,ha4,ha5⟩:=row6 hr;clear hr
 obtain rfl:=is_str ha1
 obtain rfl:=is_int ha0
 obtain rfl:=is_int ha5
 clear ha0 ha1 ha5
 have HF:=hid (((hF.plus ha4).plus ha3).plus ha2)
 have HE:=hid (all_tyE Gx (fun _=>True) (fun _ _ h=>h) 123 #[] eg_exprOf _ (fun ds hd=>Tr.exDs_len6 hd) he)
 have HBK:=hid (all_tySS Gx (fun _=>True) (fun _ _ h=>h) 140 #[] eg_statOf_2 _ (fun ds hd=>Tr.one_len hd) hb)
 clear he hb
 have HDE:=hid (designs_yes Gx (fun _=>True) d hd)
 have H0:=hid (show(exDs ([d]))[0]?=some (Tr.exD d)by simp [exDs])
 clear hd
 obtain⟨p2,c2,rfl,hl2,hp2⟩:=HF.out.daSlice (m:=0) rfl
 obtain⟨p3,c3,rfl,hl3,hp3⟩:=HF.out.daSlice (m:=1) rfl
 obtain⟨p4,c4,rfl,hl4,hp4⟩:=HF.out.daSlice (m:=2) rfl
 simp only [List.length_cons,List.length_nil,Nat.zero_add,Nat.reduceAdd,exDs_len',List.length_map,Tr.blDs_length]at HF hp2 hl2 hl3 hl4 ⊢
 obtain⟨b2,o2,rfl⟩:=hp2 (by omega)
 clear hF ha2 ha3 ha4 hp2 hp3 hp4
 go_enter Tryz.func88,Tryz.ntmps88
 go_wp2_with (first
  | ((with_reducible refine is_box ?_);refine wl_box HF.out rfl rfl ?_;intro bx W1 HF1;replace HF:=hid HF1;clear HF1;skip))
 replace HF:=hid HF.out.drew
 refine wp_region_G (UpTo 11 (fun X=>Fr.Fm w g Gx X (.blk bx [.int .i64 2,.string ⟨#[]⟩,.slice (some ⟨b2,o2,none⟩) 1 c2,.slice p3 0 c3,.slice p4 0 c4,.int .i64 p]::R) ((.slice (some ⟨b2,o2,none⟩) 1 c2,Da.D.list 6 (exDs [d]))::(.slice p3 0 c3,Da.D.list 1 ([].map fun l=>[Da.D.list 6 (exDs l)]))::(.slice p4 0 c4,Da.D.list 1 (blDs []))::Ds))) 12 (by kernel_rfl) (by kernel_rfl) (fun _=>HF.out) (fun _ hS=>?_)
 generalize World.drew _=W1 at HF hS ⊢
 refine tkB (n:=12) (is:=[0,1,2,3,4,5,6,7,8,9,10]) [[0],[1],[2],[3],[4],[5],[6],[7],[8],[9],[10]] (k:=11) rfl (by kernel_rfl) hS ?_
 repeat(first|(refine wT (i:=1) (v:=.slice (some ⟨b2,o2,none⟩) 1 c2) rfl (by rfl) (fun X xb=>?_) ?_;(focus(have y:=xb.cellAt 0 rfl 2 rfl;clear xb;go_simp;try with_reducible rfl)))|(refine wT (i:=4) (v:=.slice p4 0 c4) rfl (by rfl) (fun X xb=>?_) ?_;(focus(have y:=xb.cellAt 0 rfl 4 rfl;clear xb;go_simp;try with_reducible rfl)))|(refine wT (i:=7) (v:=.slice p3 0 c3) rfl (by rfl) (fun X xb=>?_) ?_;(focus(have y:=xb.cellAt 0 rfl 3 rfl;clear xb;go_simp;try with_reducible rfl)))|(refine wT (v:=?_) rfl (by rfl) (fun X hX=>?_) ?_;rotate_left 1;(focus(clear hX;go_simp;try with_reducible rfl))));try simp only [Act.put,zA,z0,z1]
 refine wE fun hS=>?_
 refine rd1 (i:=11) (by kernel_rfl) (.cons rfl (fun K hK=>?_) .nil)
 go_simp
 refine hK.out _ _ (fun h=>absurd h (by simp [Fr.setAll])) fun hS=>?_;clear hK K
 try simp only [Act.put,zA,z0,z1]
 refine wpAnyG_done (by kernel_rfl) ?_ _;clear hS
 have⟨e0,e1,e2,e3,e4⟩:=HF.out.c5
 go_wp2_with (first
  | ((with_reducible refine Fr.is_loadW (T:=53) ?_);(refine Fr.wl_want (by rfl) ?_);(refine Fr.wl_loadAt 0 HF.out rfl 0 rfl (by first|rfl|omega) H0.out Tryz.underlying53 rfl Fr.tyE rfl ?_);intro vs hrow;have HRW:=hid hrow;clear hrow)
  | (go_at_call 135;(refine(HDE.out _ _ _ _ _ _ trivial HF.out HRW.out).mono ?_);rintro e W3 ⟨rfl,HF1⟩;replace HF:=hid HF1;clear HF1;have⟨e0,e1,e2,e3,e4⟩:=HF.out.c5)
  | (go_at_call 132;(with_reducible refine(HE.out _ _ _ _ _ 0 _ trivial rfl HF.out).mono ?_);rintro e W3 ⟨rfl,HF1⟩;replace HF:=hid HF1;clear HF1;have⟨e0,e1,e2,e3,e4⟩:=HF.out.c5)
  | (go_at_call 139;(with_reducible refine(HBK.out _ _ _ _ _ 2 _ trivial rfl HF.out).mono ?_);rintro e W3 ⟨rfl,HF1⟩;replace HF:=hid HF1;clear HF1;have⟨e0,e1,e2,e3,e4⟩:=HF.out.c5))
 refine bodyPost_ret (v:=.bool true) (by simp [results,Tryz.results88,go_sem];try rfl) rfl ⟨rfl,HF.out.lessR.less.less.less⟩
theorem stat_cond1(es:List Tr.Ex)(bs:List (List Tr.St))(p:Int)(hpos:(0:Int)<(es.length:Int))(hl:bs.length=es.length)(he:∀ ds∈exDs es,PrD rowV Gx (fun _=>True) 123 #[] ds)(hb:∀ ds∈blDs bs,PrD oneV Gx (fun _=>True) 140 #[] ds):PrD rowV Gx (fun _=>True) 88 #[] (stD (.mk 3 [] es [] bs p)):=by
 intro w W g R Ds vs _ hF hr
 unfold stD at hr
 obtain⟨a0,a1,a2,a3,a4,a5,rfl,ha0,ha1,ha2,ha3,ha4,ha5⟩:=row6 hr;clear hr
 obtain rfl:=is_str ha1
 obtain rfl:=is_int ha0
 obtain rfl:=is_int ha5
 clear ha0 ha1 ha5
 have HF:=hid (((hF.plus ha4).plus ha3).plus ha2)
 have HE:=hid (all_tyE Gx (fun _=>True) (fun _ _ h=>h) 123 #[] eg_exprOf _ (fun ds hd=>Tr.exDs_len6 hd) he)
 have HBK:=hid (all_tySS Gx (fun _=>True) (fun _ _ h=>h) 140 #[] eg_statOf_2 _ (fun ds hd=>Tr.one_len hd) hb)
 clear he hb
 obtain⟨p2,c2,rfl,hl2,hp2⟩:=HF.out.daSlice (m:=0) rfl
 obtain⟨p3,c3,rfl,hl3,hp3⟩:=HF.out.daSlice (m:=1) rfl
 obtain⟨p4,c4,rfl,hl4,hp4⟩:=HF.out.daSlice (m:=2) rfl
 simp only [List.length_cons,List.length_nil,Nat.zero_add,Nat.reduceAdd,exDs_len',List.length_map,Tr.blDs_length,hl]at HF hp2 hl2 hl3 hl4 ⊢
 clear hF ha2 ha3 ha4 hp2 hp3 hp4
 go_enter Tryz.func88,Tryz.ntmps88
 go_wp2_with (first
  | ((with_reducible refine is_box ?_);refine wl_box HF.out rfl rfl ?_;intro bx W1 HF1;replace HF:=hid HF1;clear HF1;skip))
 replace HF:=hid HF.out.drew
 refine wp_region_G (UpTo 11 (fun X=>Fr.Fm w g Gx X (.blk bx [.int .i64 3,.string ⟨#[]⟩,.slice p2 es.length c2,.slice p3 0 c3,.slice p4 es.length c4,.int .i64 p]::R) ((.slice p2 es.length c2,Da.D.list 6 (exDs es))::(.slice p3 0 c3,Da.D.list 1 ([].map fun l=>[Da.D.list 6 (exDs l)]))::(.slice p4 es.length c4,Da.D.list 1 (blDs bs))::Ds))) 12 (by kernel_rfl) (by kernel_rfl) (fun _=>HF.out) (fun _ hS=>?_)
 generalize World.drew _=W1 at HF hS ⊢
 refine tkB (n:=12) (is:=[0,1,2,3,4,5,6,7,8,9,10]) [[0],[1],[2],[3],[4],[5],[6],[7],[8],[9],[10]] (k:=11) rfl (by kernel_rfl) hS ?_
 repeat(first|(refine wT (i:=1) (v:=.slice p2 es.length c2) rfl (by rfl) (fun X xb=>?_) ?_;(focus(have y:=xb.cellAt 0 rfl 2 rfl;clear xb;go_simp;try with_reducible rfl)))|(refine wT (i:=4) (v:=.slice p4 es.length c4) rfl (by rfl) (fun X xb=>?_) ?_;(focus(have y:=xb.cellAt 0 rfl 4 rfl;clear xb;go_simp;try with_reducible rfl)))|(refine wT (i:=7) (v:=.slice p3 0 c3) rfl (by rfl) (fun X xb=>?_) ?_;(focus(have y:=xb.cellAt 0 rfl 3 rfl;clear xb;go_simp;try with_reducible rfl)))|(refine wT (v:=?_) rfl (by rfl) (fun X hX=>?_) ?_;rotate_left 1;(focus(clear hX;go_simp;try with_reducible rfl))));try simp only [Act.put,zA,z0,z1]
 refine wE fun hS=>?_
 refine rd1 (i:=11) (by kernel_rfl) (.cons rfl (fun K hK=>?_) .nil)
 go_simp
 refine hK.out _ _ (fun h=>absurd h (by simp [Fr.setAll])) fun hS=>?_;clear hK K
 try simp only [Act.put,zA,z0,z1]
 refine wpAnyG_done (by kernel_rfl) ?_ _;clear hS
 have⟨e0,e1,e2,e3,e4⟩:=HF.out.c5
 go_wp2_with (first
  | (go_at_call 132;(with_reducible refine(HE.out _ _ _ _ _ 0 _ trivial rfl HF.out).mono ?_);rintro e W3 ⟨rfl,HF1⟩;replace HF:=hid HF1;clear HF1;have⟨e0,e1,e2,e3,e4⟩:=HF.out.c5)
  | (go_at_call 139;(with_reducible refine(HBK.out _ _ _ _ _ 2 _ trivial rfl HF.out).mono ?_);rintro e W3 ⟨rfl,HF1⟩;replace HF:=hid HF1;clear HF1;have⟨e0,e1,e2,e3,e4⟩:=HF.out.c5))
 refine bodyPost_ret (v:=.bool true) (by simp [results,Tryz.results88,go_sem];try rfl) rfl ⟨rfl,HF.out.lessR.less.less.less⟩
theorem stat_cond2(es:List Tr.Ex)(bs:List (List Tr.St))(p:Int)(hpos:(0:Int)<(es.length:Int))(hl:bs.length=es.length+1)(he:∀ ds∈exDs es,PrD rowV Gx (fun _=>True) 123 #[] ds)(hb:∀ ds∈blDs bs,PrD oneV Gx (fun _=>True) 140 #[] ds):PrD rowV Gx (fun _=>True) 88 #[] (stD (.mk 3 [] es [] bs p)):=by
 intro w W g R Ds vs _ hF hr
 unfold stD at hr
 obtain⟨a0,a1,a2,a3,a4,a5,rfl,ha0,ha1,ha2,ha3,ha4,ha5⟩:=row6 hr;clear hr
 obtain rfl:=is_str ha1
 obtain rfl:=is_int ha0
 obtain rfl:=is_int ha5
 clear ha0 ha1 ha5
 have HF:=hid (((hF.plus ha4).plus ha3).plus ha2)
 have HE:=hid (all_tyE Gx (fun _=>True) (fun _ _ h=>h) 123 #[] eg_exprOf _ (fun ds hd=>Tr.exDs_len6 hd) he)
 have HBK:=hid (all_tySS Gx (fun _=>True) (fun _ _ h=>h) 140 #[] eg_statOf_2 _ (fun ds hd=>Tr.one_len hd) hb)
 clear he hb
 obtain⟨p2,c2,rfl,hl2,hp2⟩:=HF.out.daSlice (m:=0) rfl
 obtain⟨p3,c3,rfl,hl3,hp3⟩:=HF.out.daSlice (m:=1) rfl
 obtain⟨p4,c4,rfl,hl4,hp4⟩:=HF.out.daSlice (m:=2) rfl
 simp only [List.length_cons,List.length_nil,Nat.zero_add,Nat.reduceAdd,exDs_len',List.length_map,Tr.blDs_length,hl]at HF hp2 hl2 hl3 hl4 ⊢
 clear hF ha2 ha3 ha4 hp2 hp3 hp4
 go_enter Tryz.func88,Tryz.ntmps88
 go_wp2_with (first
  | ((with_reducible refine is_box ?_);refine wl_box HF.out rfl rfl ?_;intro bx W1 HF1;replace HF:=hid HF1;clear HF1;skip))
 replace HF:=hid HF.out.drew
 refine wp_region_G (UpTo 11 (fun X=>Fr.Fm w g Gx X (.blk bx [.int .i64 3,.string ⟨#[]⟩,.slice p2 es.length c2,.slice p3 0 c3,.slice p4 (es.length+1) c4,.int .i64 p]::R) ((.slice p2 es.length c2,Da.D.list 6 (exDs es))::(.slice p3 0 c3,Da.D.list 1 ([].map fun l=>[Da.D.list 6 (exDs l)]))::(.slice p4 (es.length+1) c4,Da.D.list 1 (blDs bs))::Ds))) 12 (by kernel_rfl) (by kernel_rfl) (fun _=>HF.out) (fun _ hS=>?_)
 generalize World.drew _=W1 at HF hS ⊢
 refine tkB (n:=12) (is:=[0,1,2,3,4,5,6,7,8,9,10]) [[0],[1],[2],[3],[4],[5],[6],[7],[8],[9],[10]] (k:=11) rfl (by kernel_rfl) hS ?_
 repeat(first|(refine wT (i:=1) (v:=.slice p2 es.length c2) rfl (by rfl) (fun X xb=>?_) ?_;(focus(have y:=xb.cellAt 0 rfl 2 rfl;clear xb;go_simp;try with_reducible rfl)))|(refine wT (i:=4) (v:=.slice p4 (es.length+1) c4) rfl (by rfl) (fun X xb=>?_) ?_;(focus(have y:=xb.cellAt 0 rfl 4 rfl;clear xb;go_simp;try with_reducible rfl)))|(refine wT (i:=7) (v:=.slice p3 0 c3) rfl (by rfl) (fun X xb=>?_) ?_;(focus(have y:=xb.cellAt 0 rfl 3 rfl;clear xb;go_simp;try with_reducible rfl)))|(refine wT (v:=?_) rfl (by rfl) (fun X hX=>?_) ?_;rotate_left 1;(focus(clear hX;go_simp;try with_reducible rfl))));try simp only [Act.put,zA,z0,z1]
 refine wE fun hS=>?_
 refine rd1 (i:=11) (by kernel_rfl) (.cons rfl (fun K hK=>?_) .nil)
 go_simp
 refine hK.out _ _ (fun h=>absurd h (by simp [Fr.setAll])) fun hS=>?_;clear hK K
 try simp only [Act.put,zA,z0,z1]
 refine wpAnyG_done (by kernel_rfl) ?_ _;clear hS
 have⟨e0,e1,e2,e3,e4⟩:=HF.out.c5
 go_wp2_with (first
  | (go_at_call 132;(with_reducible refine(HE.out _ _ _ _ _ 0 _ trivial rfl HF.out).mono ?_);rintro e W3 ⟨rfl,HF1⟩;replace HF:=hid HF1;clear HF1;have⟨e0,e1,e2,e3,e4⟩:=HF.out.c5)
  | (go_at_call 139;(with_reducible refine(HBK.out _ _ _ _ _ 2 _ trivial rfl HF.out).mono ?_);rintro e W3 ⟨rfl,HF1⟩;replace HF:=hid HF1;clear HF1;have⟨e0,e1,e2,e3,e4⟩:=HF.out.c5))
 refine bodyPost_ret (v:=.bool true) (by simp [results,Tryz.results88,go_sem];try rfl) rfl ⟨rfl,HF.out.lessR.less.less.less⟩
theorem stat_whil(es:List Tr.Ex)(bs:List (List Tr.St))(p:Int)(hpos:(0:Int)<(es.length:Int))(hl:bs.length=es.length)(he:∀ ds∈exDs es,PrD rowV Gx (fun _=>True) 123 #[] ds)(hb:∀ ds∈blDs bs,PrD oneV Gx (fun _=>True) 140 #[] ds):PrD rowV Gx (fun _=>True) 88 #[] (stD (.mk 5 [] es [] bs p)):=by
 intro w W g R Ds vs _ hF hr
 unfold stD at hr
 obtain⟨a0,a1,a2,a3,a4,a5,rfl,ha0,ha1,ha2,ha3,ha4,ha5⟩:=row6 hr;clear hr
 obtain rfl:=is_str ha1
 obtain rfl:=is_int ha0
 obtain rfl:=is_int ha5
 clear ha0 ha1 ha5
 have HF:=hid (((hF.plus ha4).plus ha3).plus ha2)
 have HE:=hid (all_tyE Gx (fun _=>True) (fun _ _ h=>h) 123 #[] eg_exprOf _ (fun ds hd=>Tr.exDs_len6 hd) he)
 have HBK:=hid (all_tySS Gx (fun _=>True) (fun _ _ h=>h) 140 #[] eg_statOf_2 _ (fun ds hd=>Tr.one_len hd) hb)
 clear he hb
 obtain⟨p2,c2,rfl,hl2,hp2⟩:=HF.out.daSlice (m:=0) rfl
 obtain⟨p3,c3,rfl,hl3,hp3⟩:=HF.out.daSlice (m:=1) rfl
 obtain⟨p4,c4,rfl,hl4,hp4⟩:=HF.out.daSlice (m:=2) rfl
 simp only [List.length_cons,List.length_nil,Nat.zero_add,Nat.reduceAdd,exDs_len',List.length_map,Tr.blDs_length,hl]at HF hp2 hl2 hl3 hl4 ⊢
 clear hF ha2 ha3 ha4 hp2 hp3 hp4
 go_enter Tryz.func88,Tryz.ntmps88
 go_wp2_with (first
  | ((with_reducible refine is_box ?_);refine wl_box HF.out rfl rfl ?_;intro bx W1 HF1;replace HF:=hid HF1;clear HF1;skip))
 replace HF:=hid HF.out.drew
 refine wp_region_G (UpTo 11 (fun X=>Fr.Fm w g Gx X (.blk bx [.int .i64 5,.string ⟨#[]⟩,.slice p2 es.length c2,.slice p3 0 c3,.slice p4 es.length c4,.int .i64 p]::R) ((.slice p2 es.length c2,Da.D.list 6 (exDs es))::(.slice p3 0 c3,Da.D.list 1 ([].map fun l=>[Da.D.list 6 (exDs l)]))::(.slice p4 es.length c4,Da.D.list 1 (blDs bs))::Ds))) 12 (by kernel_rfl) (by kernel_rfl) (fun _=>HF.out) (fun _ hS=>?_)
 generalize World.drew _=W1 at HF hS ⊢
 refine tkB (n:=12) (is:=[0,1,2,3,4,5,6,7,8,9,10]) [[0],[1],[2],[3],[4],[5],[6],[7],[8],[9],[10]] (k:=11) rfl (by kernel_rfl) hS ?_
 repeat(first|(refine wT (i:=1) (v:=.slice p2 es.length c2) rfl (by rfl) (fun X xb=>?_) ?_;(focus(have y:=xb.cellAt 0 rfl 2 rfl;clear xb;go_simp;try with_reducible rfl)))|(refine wT (i:=4) (v:=.slice p4 es.length c4) rfl (by rfl) (fun X xb=>?_) ?_;(focus(have y:=xb.cellAt 0 rfl 4 rfl;clear xb;go_simp;try with_reducible rfl)))|(refine wT (i:=7) (v:=.slice p3 0 c3) rfl (by rfl) (fun X xb=>?_) ?_;(focus(have y:=xb.cellAt 0 rfl 3 rfl;clear xb;go_simp;try with_reducible rfl)))|(refine wT (v:=?_) rfl (by rfl) (fun X hX=>?_) ?_;rotate_left 1;(focus(clear hX;go_simp;try with_reducible rfl))));try simp only [Act.put,zA,z0,z1]
 refine wE fun hS=>?_
 refine rd1 (i:=11) (by kernel_rfl) (.cons rfl (fun K hK=>?_) .nil)
 go_simp
 refine hK.out _ _ (fun h=>absurd h (by simp [Fr.setAll])) fun hS=>?_;clear hK K
 try simp only [Act.put,zA,z0,z1]
 refine wpAnyG_done (by kernel_rfl) ?_ _;clear hS
 have⟨e0,e1,e2,e3,e4⟩:=HF.out.c5
 go_wp2_with (first
  | (go_at_call 132;(with_reducible refine(HE.out _ _ _ _ _ 0 _ trivial rfl HF.out).mono ?_);rintro e W3 ⟨rfl,HF1⟩;replace HF:=hid HF1;clear HF1;have⟨e0,e1,e2,e3,e4⟩:=HF.out.c5)
  | (go_at_call 139;(with_reducible refine(HBK.out _ _ _ _ _ 2 _ trivial rfl HF.out).mono ?_);rintro e W3 ⟨rfl,HF1⟩;replace HF:=hid HF1;clear HF1;have⟨e0,e1,e2,e3,e4⟩:=HF.out.c5))
 refine bodyPost_ret (v:=.bool true) (by simp [results,Tryz.results88,go_sem];try rfl) rfl ⟨rfl,HF.out.lessR.less.less.less⟩
theorem stat_rept(e:Tr.Ex)(b:List Tr.St)(p:Int)(he:∀ ds∈exDs [e],PrD rowV Gx (fun _=>True) 123 #[] ds)(hb:∀ ds∈blDs [b],PrD oneV Gx (fun _=>True) 140 #[] ds):PrD rowV Gx (fun _=>True) 88 #[] (stD (.mk 6 [] [e] [] [b] p)):=by
 intro w W g R Ds vs _ hF hr
 unfold stD at hr
 obtain⟨a0,a1,a2,a3,a4,a5,rfl,ha0,ha1,ha2,ha3,ha4,ha5⟩:=row6 hr;clear hr
 obtain rfl:=is_str ha1
 obtain rfl:=is_int ha0
 obtain rfl:=is_int ha5
 clear ha0 ha1 ha5
 have HF:=hid (((hF.plus ha4).plus ha3).plus ha2)
 have HE:=hid (all_tyE Gx (fun _=>True) (fun _ _ h=>h) 123 #[] eg_exprOf _ (fun ds hd=>Tr.exDs_len6 hd) he)
 have HBK:=hid (all_tySS Gx (fun _=>True) (fun _ _ h=>h) 140 #[] eg_statOf_2 _ (fun ds hd=>Tr.one_len hd) hb)
 clear he hb
 obtain⟨p2,c2,rfl,hl2,hp2⟩:=HF.out.daSlice (m:=0) rfl
 obtain⟨p3,c3,rfl,hl3,hp3⟩:=HF.out.daSlice (m:=1) rfl
 obtain⟨p4,c4,rfl,hl4,hp4⟩:=HF.out.daSlice (m:=2) rfl
 simp only [List.length_cons,List.length_nil,Nat.zero_add,Nat.reduceAdd,exDs_len',List.length_map,Tr.blDs_length]at HF hp2 hl2 hl3 hl4 ⊢
 clear hF ha2 ha3 ha4 hp2 hp3 hp4
 go_enter Tryz.func88,Tryz.ntmps88
 go_wp2_with (first
  | ((with_reducible refine is_box ?_);refine wl_box HF.out rfl rfl ?_;intro bx W1 HF1;replace HF:=hid HF1;clear HF1;skip))
 replace HF:=hid HF.out.drew
 refine wp_region_G (UpTo 11 (fun X=>Fr.Fm w g Gx X (.blk bx [.int .i64 6,.string ⟨#[]⟩,.slice p2 1 c2,.slice p3 0 c3,.slice p4 1 c4,.int .i64 p]::R) ((.slice p2 1 c2,Da.D.list 6 (exDs [e]))::(.slice p3 0 c3,Da.D.list 1 ([].map fun l=>[Da.D.list 6 (exDs l)]))::(.slice p4 1 c4,Da.D.list 1 (blDs [b]))::Ds))) 12 (by kernel_rfl) (by kernel_rfl) (fun _=>HF.out) (fun _ hS=>?_)
 generalize World.drew _=W1 at HF hS ⊢
 refine tkB (n:=12) (is:=[0,1,2,3,4,5,6,7,8,9,10]) [[0],[1],[2],[3],[4],[5],[6],[7],[8],[9],[10]] (k:=11) rfl (by kernel_rfl) hS ?_
 repeat(first|(refine wT (i:=1) (v:=.slice p2 1 c2) rfl (by rfl) (fun X xb=>?_) ?_;(focus(have y:=xb.cellAt 0 rfl 2 rfl;clear xb;go_simp;try with_reducible rfl)))|(refine wT (i:=4) (v:=.slice p4 1 c4) rfl (by rfl) (fun X xb=>?_) ?_;(focus(have y:=xb.cellAt 0 rfl 4 rfl;clear xb;go_simp;try with_reducible rfl)))|(refine wT (i:=7) (v:=.slice p3 0 c3) rfl (by rfl) (fun X xb=>?_) ?_;(focus(have y:=xb.cellAt 0 rfl 3 rfl;clear xb;go_simp;try with_reducible rfl)))|(refine wT (v:=?_) rfl (by rfl) (fun X hX=>?_) ?_;rotate_left 1;(focus(clear hX;go_simp;try with_reducible rfl))));try simp only [Act.put,zA,z0,z1]
 refine wE fun hS=>?_
 refine rd1 (i:=11) (by kernel_rfl) (.cons rfl (fun K hK=>?_) .nil)
 go_simp
 refine hK.out _ _ (fun h=>absurd h (by simp [Fr.setAll])) fun hS=>?_;clear hK K
 try simp only [Act.put,zA,z0,z1]
 refine wpAnyG_done (by kernel_rfl) ?_ _;clear hS
 have⟨e0,e1,e2,e3,e4⟩:=HF.out.c5
 go_wp2_with (first
  | (go_at_call 132;(with_reducible refine(HE.out _ _ _ _ _ 0 _ trivial rfl HF.out).mono ?_);rintro e W3 ⟨rfl,HF1⟩;replace HF:=hid HF1;clear HF1;have⟨e0,e1,e2,e3,e4⟩:=HF.out.c5)
  | (go_at_call 139;(with_reducible refine(HBK.out _ _ _ _ _ 2 _ trivial rfl HF.out).mono ?_);rintro e W3 ⟨rfl,HF1⟩;replace HF:=hid HF1;clear HF1;have⟨e0,e1,e2,e3,e4⟩:=HF.out.c5))
 refine bodyPost_ret (v:=.bool true) (by simp [results,Tryz.results88,go_sem];try rfl) rfl ⟨rfl,HF.out.lessR.less.less.less⟩
theorem stat_loop2(n:List UInt8)(es:List Tr.Ex)(b:List Tr.St)(p:Int)(hn:Tr.NM n)(hl:es.length=2)(he:∀ ds∈exDs es,PrD rowV Gx (fun _=>True) 123 #[] ds)(hb:∀ ds∈blDs [b],PrD oneV Gx (fun _=>True) 140 #[] ds):PrD rowV Gx (fun _=>True) 88 #[] (stD (.mk 7 n es [] [b] p)):=by
 intro w W g R Ds vs _ hF hr
 unfold stD at hr
 obtain⟨a0,a1,a2,a3,a4,a5,rfl,ha0,ha1,ha2,ha3,ha4,ha5⟩:=row6 hr;clear hr
 obtain rfl:=is_str ha1
 obtain rfl:=is_int ha0
 obtain rfl:=is_int ha5
 clear ha0 ha1 ha5
 have HF:=hid (((hF.plus ha4).plus ha3).plus ha2)
 have HE:=hid (all_tyE Gx (fun _=>True) (fun _ _ h=>h) 123 #[] eg_exprOf _ (fun ds hd=>Tr.exDs_len6 hd) he)
 have HBK:=hid (all_tySS Gx (fun _=>True) (fun _ _ h=>h) 140 #[] eg_statOf_2 _ (fun ds hd=>Tr.one_len hd) hb)
 clear he hb
 have HN:=hid hn
 clear hn
 obtain⟨p2,c2,rfl,hl2,hp2⟩:=HF.out.daSlice (m:=0) rfl
 obtain⟨p3,c3,rfl,hl3,hp3⟩:=HF.out.daSlice (m:=1) rfl
 obtain⟨p4,c4,rfl,hl4,hp4⟩:=HF.out.daSlice (m:=2) rfl
 simp only [List.length_cons,List.length_nil,Nat.zero_add,Nat.reduceAdd,exDs_len',List.length_map,Tr.blDs_length,hl]at HF hp2 hl2 hl3 hl4 ⊢
 clear hF ha2 ha3 ha4 hp2 hp3 hp4
 go_enter Tryz.func88,Tryz.ntmps88
 go_wp2_with (first
  | ((with_reducible refine is_box ?_);refine wl_box HF.out rfl rfl ?_;intro bx W1 HF1;replace HF:=hid HF1;clear HF1;skip))
 replace HF:=hid HF.out.drew
 refine wp_region_G (UpTo 11 (fun X=>Fr.Fm w g Gx X (.blk bx [.int .i64 7,.string ⟨n.toArray⟩,.slice p2 2 c2,.slice p3 0 c3,.slice p4 1 c4,.int .i64 p]::R) ((.slice p2 2 c2,Da.D.list 6 (exDs es))::(.slice p3 0 c3,Da.D.list 1 ([].map fun l=>[Da.D.list 6 (exDs l)]))::(.slice p4 1 c4,Da.D.list 1 (blDs [b]))::Ds))) 12 (by kernel_rfl) (by kernel_rfl) (fun _=>HF.out) (fun _ hS=>?_)
 generalize World.drew _=W1 at HF hS ⊢
 refine tkB (n:=12) (is:=[0,1,2,3,4,5,6,7,8,9,10]) [[0],[1],[2],[3],[4],[5],[6],[7],[8],[9],[10]] (k:=11) rfl (by kernel_rfl) hS ?_
 repeat(first|(refine wT (i:=1) (v:=.slice p2 2 c2) rfl (by rfl) (fun X xb=>?_) ?_;(focus(have y:=xb.cellAt 0 rfl 2 rfl;clear xb;go_simp;try with_reducible rfl)))|(refine wT (i:=4) (v:=.slice p4 1 c4) rfl (by rfl) (fun X xb=>?_) ?_;(focus(have y:=xb.cellAt 0 rfl 4 rfl;clear xb;go_simp;try with_reducible rfl)))|(refine wT (i:=7) (v:=.slice p3 0 c3) rfl (by rfl) (fun X xb=>?_) ?_;(focus(have y:=xb.cellAt 0 rfl 3 rfl;clear xb;go_simp;try with_reducible rfl)))|(refine wT (v:=?_) rfl (by rfl) (fun X hX=>?_) ?_;rotate_left 1;(focus(clear hX;go_simp;try with_reducible rfl))));try simp only [Act.put,zA,z0,z1]
 refine wE fun hS=>?_
 refine rd1 (i:=11) (by kernel_rfl) (.cons rfl (fun K hK=>?_) .nil)
 go_simp
 refine hK.out _ _ (fun h=>absurd h (by simp [Fr.setAll])) fun hS=>?_;clear hK K
 try simp only [Act.put,zA,z0,z1]
 refine wpAnyG_done (by kernel_rfl) ?_ _;clear hS
 have⟨e0,e1,e2,e3,e4⟩:=HF.out.c5
 go_wp2_with (first
  | (go_at_call 81;(with_reducible refine(tname_yes HN.out HF.out).mono ?_);rintro e W3 ⟨rfl,HF1⟩;replace HF:=hid HF1;clear HF1;have⟨e0,e1,e2,e3,e4⟩:=HF.out.c5)
  | (go_at_call 132;(with_reducible refine(HE.out _ _ _ _ _ 0 _ trivial rfl HF.out).mono ?_);rintro e W3 ⟨rfl,HF1⟩;replace HF:=hid HF1;clear HF1;have⟨e0,e1,e2,e3,e4⟩:=HF.out.c5)
  | (go_at_call 139;(with_reducible refine(HBK.out _ _ _ _ _ 2 _ trivial rfl HF.out).mono ?_);rintro e W3 ⟨rfl,HF1⟩;replace HF:=hid HF1;clear HF1;have⟨e0,e1,e2,e3,e4⟩:=HF.out.c5))
 refine bodyPost_ret (v:=.bool true) (by simp [results,Tryz.results88,go_sem];try rfl) rfl ⟨rfl,HF.out.lessR.less.less.less⟩
theorem stat_loop3(n:List UInt8)(es:List Tr.Ex)(b:List Tr.St)(p:Int)(hn:Tr.NM n)(hl:es.length=3)(he:∀ ds∈exDs es,PrD rowV Gx (fun _=>True) 123 #[] ds)(hb:∀ ds∈blDs [b],PrD oneV Gx (fun _=>True) 140 #[] ds):PrD rowV Gx (fun _=>True) 88 #[] (stD (.mk 7 n es [] [b] p)):=by
 intro w W g R Ds vs _ hF hr
 unfold stD at hr
 obtain⟨a0,a1,a2,a3,a4,a5,rfl,ha0,ha1,ha2,ha3,ha4,ha5⟩:=row6 hr;clear hr
 obtain rfl:=is_str ha1
 obtain rfl:=is_int ha0
 obtain rfl:=is_int ha5
 clear ha0 ha1 ha5
 have HF:=hid (((hF.plus ha4).plus ha3).plus ha2)
 have HE:=hid (all_tyE Gx (fun _=>True) (fun _ _ h=>h) 123 #[] eg_exprOf _ (fun ds hd=>Tr.exDs_len6 hd) he)
 have HBK:=hid (all_tySS Gx (fun _=>True) (fun _ _ h=>h) 140 #[] eg_statOf_2 _ (fun ds hd=>Tr.one_len hd) hb)
 clear he hb
 have HN:=hid hn
 clear hn
 obtain⟨p2,c2,rfl,hl2,hp2⟩:=HF.out.daSlice (m:=0) rfl
 obtain⟨p3,c3,rfl,hl3,hp3⟩:=HF.out.daSlice (m:=1) rfl
 obtain⟨p4,c4,rfl,hl4,hp4⟩:=HF.out.daSlice (m:=2) rfl
 simp only [List.length_cons,List.length_nil,Nat.zero_add,Nat.reduceAdd,exDs_len',List.length_map,Tr.blDs_length,hl]at HF hp2 hl2 hl3 hl4 ⊢
 clear hF ha2 ha3 ha4 hp2 hp3 hp4
 go_enter Tryz.func88,Tryz.ntmps88
 go_wp2_with (first
  | ((with_reducible refine is_box ?_);refine wl_box HF.out rfl rfl ?_;intro bx W1 HF1;replace HF:=hid HF1;clear HF1;skip))
 replace HF:=hid HF.out.drew
 refine wp_region_G (UpTo 11 (fun X=>Fr.Fm w g Gx X (.blk bx [.int .i64 7,.string ⟨n.toArray⟩,.slice p2 3 c2,.slice p3 0 c3,.slice p4 1 c4,.int .i64 p]::R) ((.slice p2 3 c2,Da.D.list 6 (exDs es))::(.slice p3 0 c3,Da.D.list 1 ([].map fun l=>[Da.D.list 6 (exDs l)]))::(.slice p4 1 c4,Da.D.list 1 (blDs [b]))::Ds))) 12 (by kernel_rfl) (by kernel_rfl) (fun _=>HF.out) (fun _ hS=>?_)
 generalize World.drew _=W1 at HF hS ⊢
 refine tkB (n:=12) (is:=[0,1,2,3,4,5,6,7,8,9,10]) [[0],[1],[2],[3],[4],[5],[6],[7],[8],[9],[10]] (k:=11) rfl (by kernel_rfl) hS ?_
 repeat(first|(refine wT (i:=1) (v:=.slice p2 3 c2) rfl (by rfl) (fun X xb=>?_) ?_;(focus(have y:=xb.cellAt 0 rfl 2 rfl;clear xb;go_simp;try with_reducible rfl)))|(refine wT (i:=4) (v:=.slice p4 1 c4) rfl (by rfl) (fun X xb=>?_) ?_;(focus(have y:=xb.cellAt 0 rfl 4 rfl;clear xb;go_simp;try with_reducible rfl)))|(refine wT (i:=7) (v:=.slice p3 0 c3) rfl (by rfl) (fun X xb=>?_) ?_;(focus(have y:=xb.cellAt 0 rfl 3 rfl;clear xb;go_simp;try with_reducible rfl)))|(refine wT (v:=?_) rfl (by rfl) (fun X hX=>?_) ?_;rotate_left 1;(focus(clear hX;go_simp;try with_reducible rfl))));try simp only [Act.put,zA,z0,z1]
 refine wE fun hS=>?_
 refine rd1 (i:=11) (by kernel_rfl) (.cons rfl (fun K hK=>?_) .nil)
 go_simp
 refine hK.out _ _ (fun h=>absurd h (by simp [Fr.setAll])) fun hS=>?_;clear hK K
 try simp only [Act.put,zA,z0,z1]
 refine wpAnyG_done (by kernel_rfl) ?_ _;clear hS
 have⟨e0,e1,e2,e3,e4⟩:=HF.out.c5
 go_wp2_with (first
  | (go_at_call 81;(with_reducible refine(tname_yes HN.out HF.out).mono ?_);rintro e W3 ⟨rfl,HF1⟩;replace HF:=hid HF1;clear HF1;have⟨e0,e1,e2,e3,e4⟩:=HF.out.c5)
  | (go_at_call 132;(with_reducible refine(HE.out _ _ _ _ _ 0 _ trivial rfl HF.out).mono ?_);rintro e W3 ⟨rfl,HF1⟩;replace HF:=hid HF1;clear HF1;have⟨e0,e1,e2,e3,e4⟩:=HF.out.c5)
  | (go_at_call 139;(with_reducible refine(HBK.out _ _ _ _ _ 2 _ trivial rfl HF.out).mono ?_);rintro e W3 ⟨rfl,HF1⟩;replace HF:=hid HF1;clear HF1;have⟨e0,e1,e2,e3,e4⟩:=HF.out.c5))
 refine bodyPost_ret (v:=.bool true) (by simp [results,Tryz.results88,go_sem];try rfl) rfl ⟨rfl,HF.out.lessR.less.less.less⟩
theorem stat_cases(e:Tr.Ex)(ls:List (List Tr.Ex))(bs:List (List Tr.St))(p:Int)(hl:bs.length=ls.length)(hls:∀ ds∈ls.map (fun l=>[Da.D.list 6 (exDs l)]),PrD oneV Gx (fun _=>True) 137 #[] ds)(he:∀ ds∈exDs [e],PrD rowV Gx (fun _=>True) 123 #[] ds)(hb:∀ ds∈blDs bs,PrD oneV Gx (fun _=>True) 140 #[] ds):PrD rowV Gx (fun _=>True) 88 #[] (stD (.mk 4 [] [e] ls bs p)):=by
 intro w W g R Ds vs _ hF hr
 unfold stD at hr
 obtain⟨a0,a1,a2,a3,a4,a5,rfl,ha0,ha1,ha2,ha3,ha4,ha5⟩:=row6 hr;clear hr
 obtain rfl:=is_str ha1
 obtain rfl:=is_int ha0
 obtain rfl:=is_int ha5
 clear ha0 ha1 ha5
 have HF:=hid (((hF.plus ha4).plus ha3).plus ha2)
 have HE:=hid (all_tyE Gx (fun _=>True) (fun _ _ h=>h) 123 #[] eg_exprOf _ (fun ds hd=>Tr.exDs_len6 hd) he)
 have HBK:=hid (all_tySS Gx (fun _=>True) (fun _ _ h=>h) 140 #[] eg_statOf_2 _ (fun ds hd=>Tr.one_len hd) hb)
 clear he hb
 have HLB:=hid (all_tySE Gx (fun _=>True) (fun _ _ h=>h) 137 #[] eg_statOf_1 _ (fun ds hd=>Tr.one_len2 hd) hls)
 clear hls
 obtain⟨p2,c2,rfl,hl2,hp2⟩:=HF.out.daSlice (m:=0) rfl
 obtain⟨p3,c3,rfl,hl3,hp3⟩:=HF.out.daSlice (m:=1) rfl
 obtain⟨p4,c4,rfl,hl4,hp4⟩:=HF.out.daSlice (m:=2) rfl
 simp only [List.length_cons,List.length_nil,Nat.zero_add,Nat.reduceAdd,exDs_len',List.length_map,Tr.blDs_length,hl]at HF hp2 hl2 hl3 hl4 ⊢
 clear hF ha2 ha3 ha4 hp2 hp3 hp4
 go_enter Tryz.func88,Tryz.ntmps88
 go_wp2_with (first
  | ((with_reducible refine is_box ?_);refine wl_box HF.out rfl rfl ?_;intro bx W1 HF1;replace HF:=hid HF1;clear HF1;skip))
 replace HF:=hid HF.out.drew
 refine wp_region_G (UpTo 11 (fun X=>Fr.Fm w g Gx X (.blk bx [.int .i64 4,.string ⟨#[]⟩,.slice p2 1 c2,.slice p3 ls.length c3,.slice p4 ls.length c4,.int .i64 p]::R) ((.slice p2 1 c2,Da.D.list 6 (exDs [e]))::(.slice p3 ls.length c3,Da.D.list 1 (ls.map fun l=>[Da.D.list 6 (exDs l)]))::(.slice p4 ls.length c4,Da.D.list 1 (blDs bs))::Ds))) 12 (by kernel_rfl) (by kernel_rfl) (fun _=>HF.out) (fun _ hS=>?_)
 generalize World.drew _=W1 at HF hS ⊢
 refine tkB (n:=12) (is:=[0,1,2,3,4,5,6,7,8,9,10]) [[0],[1],[2],[3],[4],[5],[6],[7],[8],[9],[10]] (k:=11) rfl (by kernel_rfl) hS ?_
 repeat(first|(refine wT (i:=1) (v:=.slice p2 1 c2) rfl (by rfl) (fun X xb=>?_) ?_;(focus(have y:=xb.cellAt 0 rfl 2 rfl;clear xb;go_simp;try with_reducible rfl)))|(refine wT (i:=4) (v:=.slice p4 ls.length c4) rfl (by rfl) (fun X xb=>?_) ?_;(focus(have y:=xb.cellAt 0 rfl 4 rfl;clear xb;go_simp;try with_reducible rfl)))|(refine wT (i:=7) (v:=.slice p3 ls.length c3) rfl (by rfl) (fun X xb=>?_) ?_;(focus(have y:=xb.cellAt 0 rfl 3 rfl;clear xb;go_simp;try with_reducible rfl)))|(refine wT (v:=?_) rfl (by rfl) (fun X hX=>?_) ?_;rotate_left 1;(focus(clear hX;go_simp;try with_reducible rfl))));try simp only [Act.put,zA,z0,z1]
 refine wE fun hS=>?_
 refine rd1 (i:=11) (by kernel_rfl) (.cons rfl (fun K hK=>?_) .nil)
 go_simp
 refine hK.out _ _ (fun h=>absurd h (by simp [Fr.setAll])) fun hS=>?_;clear hK K
 try simp only [Act.put,zA,z0,z1]
 refine wpAnyG_done (by kernel_rfl) ?_ _;clear hS
 have⟨e0,e1,e2,e3,e4⟩:=HF.out.c5
 go_wp2_with (first
  | (go_at_call 136;(with_reducible refine(HLB.out _ _ _ _ _ 1 _ trivial rfl HF.out).mono ?_);rintro e W3 ⟨rfl,HF1⟩;replace HF:=hid HF1;clear HF1;have⟨e0,e1,e2,e3,e4⟩:=HF.out.c5)
  | (go_at_call 132;(with_reducible refine(HE.out _ _ _ _ _ 0 _ trivial rfl HF.out).mono ?_);rintro e W3 ⟨rfl,HF1⟩;replace HF:=hid HF1;clear HF1;have⟨e0,e1,e2,e3,e4⟩:=HF.out.c5)
  | (go_at_call 139;(with_reducible refine(HBK.out _ _ _ _ _ 2 _ trivial rfl HF.out).mono ?_);rintro e W3 ⟨rfl,HF1⟩;replace HF:=hid HF1;clear HF1;have⟨e0,e1,e2,e3,e4⟩:=HF.out.c5))
 refine bodyPost_ret (v:=.bool true) (by simp [results,Tryz.results88,go_sem];try rfl) rfl ⟨rfl,HF.out.lessR.less.less.less⟩
theorem stat_all:∀(n:Nat) (s:Tr.St),SizeOf.sizeOf s<n→Tr.WS s→PrD rowV Gx (fun _=>True) 88 #[] (stD s):=by
 intro n
 induction n with
 | zero=>intro t h;omega
 | succ n ih =>
  intro s hz hw
  have blk:∀(b:List Tr.St),SizeOf.sizeOf b<n→Tr.AllP Tr.WS b→PrD oneV Gx (fun _=>True) 140 #[] [Da.D.list 6 (Tr.stDs b)]:=fun b hs hb =>
   blk_yes b (Tr.stDs_mem fun x hx=>ih x (by have:=List.sizeOf_lt_of_mem hx;omega) (Tr.allP_mem hb x hx))
  have blks:∀(bs:List (List Tr.St)),SizeOf.sizeOf bs<n→Tr.AllP (Tr.AllP Tr.WS) bs→∀ ds∈blDs bs,PrD oneV Gx (fun _=>True) 140 #[] ds:=fun bs hs hb =>
   Tr.blDs_mem fun b hm=>blk b (by have:=List.sizeOf_lt_of_mem hm;omega) (Tr.allP_mem hb b hm)
  have exs:∀{es:List Tr.Ex},Tr.AllP Tr.WE es→∀ ds∈exDs es,PrD rowV Gx (fun _=>True) 123 #[] ds:=fun h=>Tr.exDs_mem fun x hx=>expr_yes x (Tr.allP_mem h x hx)
  cases hw with
  | asg d e p hd h he=>exact stat_asg d e p h (exs (.cons hd (.cons he .nil))) (Tr.blDs_mem fun b hm=>by cases hm)
  | call d p hd h=>exact stat_call d p h (exs (.cons hd .nil)) (Tr.blDs_mem fun b hm=>by cases hm)
  | cond e es bs p he hl hb =>
   simp only [Tr.St.mk.sizeOf_spec]at hz
   rcases hl with hl|hl
   ·exact stat_cond1 (e::es) bs p (by simp only [List.length_cons];omega) (by simpa using hl) (exs he) (blks bs (by omega) hb)
   ·exact stat_cond2 (e::es) bs p (by simp only [List.length_cons];omega) (by simpa using hl) (exs he) (blks bs (by omega) hb)
  | cases e ls bs p he hl hn hls hb =>
   simp only [Tr.St.mk.sizeOf_spec]at hz
   exact stat_cases e ls bs p hl (Tr.map_mem fun l hm=>labs_yes l (hn l hm) (Tr.allP_mem (Tr.allP_mem hls l hm))) (exs (.cons he .nil)) (blks bs (by omega) hb)
  | whil e es bs p he hl hb =>
   simp only [Tr.St.mk.sizeOf_spec]at hz
   exact stat_whil (e::es) bs p (by simp only [List.length_cons];omega) (by simpa using hl) (exs he) (blks bs (by omega) hb)
  | rept e b p he hb =>
   simp only [Tr.St.mk.sizeOf_spec]at hz
   exact stat_rept e b p (exs (.cons he .nil)) (blks [b] (by simp only [List.cons.sizeOf_spec,List.nil.sizeOf_spec]at hz ⊢;omega) (.cons hb .nil))
  | loop n0 es b p hn hl he hb =>
   simp only [Tr.St.mk.sizeOf_spec]at hz
   have hbb:=blks [b] (by simp only [List.cons.sizeOf_spec,List.nil.sizeOf_spec]at hz ⊢;omega) (.cons hb .nil)
   rcases hl with hl|hl
   ·exact stat_loop2 n0 es b p hn hl (exs he) hbb
   ·exact stat_loop3 n0 es b p hn hl (exs he) hbb
theorem stat_yes(s:Tr.St)(h:Tr.WS s):PrD rowV Gx (fun _=>True) 88 #[] (stD s):=stat_all _ s (Nat.lt_succ_self _) h
end Go.Proofs.YtlhmkfcbldghfaaGreatDoor
