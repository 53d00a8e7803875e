/- The walks of tree's labelOf,exprOf,bare,qualOf,openOf,formalsOf and typeOf: they answer true where what is asked may have been read. Conditions: the library's variables are xs they were laid. -/
import Derived.Test.YtlhmkfcbldghfaaGreatDoorSnF
import Derived.Test.YtlhmkfcbldghfaaGreatDoorSnC
namespace Go.Proofs.YtlhmkfcbldghfaaGreatDoor
set_option linter.all false
open Go.Lib (hid)
set_option maxRecDepth 1000000
set_option maxHeartbeats 16000000
open Go.RowKit
open Fr (exDs_len' is_box is_int is_loadW is_str row10 row_inv tyT wl_box wl_load wl_want)
open Tr (exD exDs fdD tyD tyDs)
namespace Tr
theorem tyDs_len(l:List Ty):(tyDs l).length=l.length:=by rw [tyDs_map,List.length_map]
theorem fdDs_len(l:List FT):(fdDs l).length=l.length:=by rw [fdDs_map,List.length_map]
theorem exDs_mem{l:List Ex}{Q:List Da.D→Prop}(h:∀ e∈l,Q (exD e)):∀ ds∈exDs l,Q ds:=by
 intro ds hd
 rw [exDs_map]at hd
 obtain⟨e,he,rfl⟩:=List.mem_map.1 hd
 exact h e he
theorem tyDs_mem{l:List Ty}{Q:List Da.D→Prop}(h:∀ e∈l,Q (tyD e)):∀ ds∈tyDs l,Q ds:=by
 intro ds hd
 rw [tyDs_map]at hd
 obtain⟨e,he,rfl⟩:=List.mem_map.1 hd
 exact h e he
theorem fdDs_mem{l:List FT}{Q:List Da.D→Prop}(h:∀ e∈l,Q (fdD e)):∀ ds∈fdDs l,Q ds:=by
 intro ds hd
 rw [fdDs_map]at hd
 obtain⟨e,he,rfl⟩:=List.mem_map.1 hd
 exact h e he
theorem tyDs_len10{l:List Ty}{ds:List Da.D}(h:ds∈tyDs l):ds.length=10:=tyDs_mem (Q:=fun d=>d.length=10) (fun e _=>tyD_len e) ds h
theorem fdDs_len13{l:List FT}{ds:List Da.D}(h:ds∈fdDs l):ds.length=13:=fdDs_mem (Q:=fun d=>d.length=13) (fun e _=>fdD_len e) ds h
theorem most_mem{α:Type}{P:α→Prop}{l:List α}(h:Most P l):(∀ x∈l,P x)∧l.length≤1:=by
 rcases h with rfl|⟨a,rfl,ha⟩
 ·exact⟨fun x hx=>(by cases hx),by simp⟩
 ·exact⟨fun x hx=>(by rcases List.mem_singleton.1 hx with rfl;exact ha),by simp⟩
end Tr
theorem label_yes(n:Nat)(ih:∀ e:Tr.Ex,SizeOf.sizeOf e<n→Tr.WE e→PrD rowV Gx (fun _=>True) 123 #[] (exD e))(e:Tr.Ex)(hz:SizeOf.sizeOf e<n)(hw:Tr.WL Tr.WE e):PrD rowV Gx (fun _=>True) 138 #[] (exD e):=by
 have hse:e=e:=rfl
 cases hw with
 | plain _ h =>
  have HX:=hid (ih e hz h)
  clear ih hz
  intro w W g R Ds vs _ hF hr
  obtain⟨k,n0,t,o,xs,p⟩:=e
  have hk:¬ k=7:=by intro hk;subst hk;cases h
  unfold exD at hr HX
  obtain⟨c0,_,rfl,h0,hr⟩:=row_inv hr
  obtain⟨c1,_,rfl,h1,hr⟩:=row_inv hr
  obtain⟨c2,_,rfl,h2,hr⟩:=row_inv hr
  obtain⟨c3,_,rfl,h3,hr⟩:=row_inv hr
  obtain⟨c4,_,rfl,h4,hr⟩:=row_inv hr
  obtain⟨c5,_,rfl,h5,hr⟩:=row_inv hr
  obtain rfl:=Fr.row_inv0 hr
  obtain rfl:=is_int h0
  obtain rfl:=is_int h1
  obtain rfl:=is_str h2
  obtain rfl:=is_str h3
  obtain rfl:=is_int h5
  clear h0 h1 h2 h3 h5 hr
  have HF:=hid (hF.plus h4)
  clear hF h4 h
  go_enter Tryz.func138,Tryz.ntmps138
  go_wp2_with (first
   | ((with_reducible refine is_box ?_);refine wl_box HF.out rfl rfl ?_;intro bx W1 HF1;replace HF:=hid HF1;clear HF1;have e0:=HF.out.cellAt 0 rfl 0 rfl)
   | ((with_reducible refine Fr.is_load (T:=53) ?_);(refine wl_load 0 HF.out rfl rfl Tryz.underlying53 rfl Fr.tyE rfl ?_))
   | (go_at_call 123;(refine(HX.out _ _ _ _ _ _ trivial HF.out (Da.row_cons (.int _) (Da.row_cons (.int _) (Da.row_cons (.str _) (Da.row_cons (.str _) (Da.row_cons (HF.out.da 0 _ _ rfl) (Da.row_cons (.int _) (Da.row_nil _ _)))))))).mono ?_);rintro e W3 ⟨rfl,HF1⟩;replace HF:=hid HF1;clear HF1))
  refine bodyPost_ret (v:=.bool true) (by simp [results,Tryz.results138,go_sem];try rfl) rfl ⟨rfl,HF.out.lessR.less⟩
 | range a b p ha hb =>
  have hok:∀ ds∈exDs [a,b],PrD rowV Gx (fun _=>True) 123 #[] ds:=Tr.exDs_mem fun x hx=>by
   simp only [Tr.Ex.mk.sizeOf_spec,List.cons.sizeOf_spec]at hz
   rcases List.mem_cons.1 hx with rfl|hx
   ·exact ih _ (by omega) ha
   ·rcases List.mem_singleton.1 hx with rfl
    exact ih _ (by omega) hb
  clear ih hz ha hb hse
  intro w W g R Ds vs _ hF hr
  unfold exD at hr
  obtain⟨c0,_,rfl,h0,hr⟩:=row_inv hr
  obtain⟨c1,_,rfl,h1,hr⟩:=row_inv hr
  obtain⟨c2,_,rfl,h2,hr⟩:=row_inv hr
  obtain⟨c3,_,rfl,h3,hr⟩:=row_inv hr
  obtain⟨c4,_,rfl,h4,hr⟩:=row_inv hr
  obtain⟨c5,_,rfl,h5,hr⟩:=row_inv hr
  obtain rfl:=Fr.row_inv0 hr
  obtain rfl:=is_int h0
  obtain rfl:=is_int h1
  obtain rfl:=is_str h2
  obtain rfl:=is_str h3
  obtain rfl:=is_int h5
  clear h0 h1 h2 h3 h5 hr
  have HF:=hid (hF.plus h4)
  have HA:=hid (all_tyE Gx (fun _=>True) (fun _ _ h=>h) 123 #[] eg_exprOf _ (fun ds hd=>Tr.exDs_len6 hd) hok)
  obtain⟨p4,c4,rfl,hl4,-⟩:=HF.out.daSlice (m:=0) rfl
  rw [exDs_len']at hl4 HF ⊢
  simp only [List.length_cons,List.length_nil,Nat.zero_add,Nat.reduceAdd]at hl4 HF ⊢
  clear hF h4 hok
  go_enter Tryz.func138,Tryz.ntmps138
  go_wp2_with (first
   | ((with_reducible refine is_box ?_);refine wl_box HF.out rfl rfl ?_;intro bx W1 HF1;replace HF:=hid HF1;clear HF1;have⟨e0,e1,e2,e3,e4,e5⟩:=HF.out.c6)
   | (go_at_call 132;(with_reducible refine(HA.out _ _ _ _ _ 0 _ trivial rfl HF.out).mono ?_);rintro e W3 ⟨rfl,HF1⟩;replace HF:=hid HF1;clear HF1))
  refine bodyPost_ret (v:=.bool true) (by simp [results,Tryz.results138,go_sem];try rfl) rfl ⟨rfl,HF.out.lessR.less⟩
theorem contains_ops{o:List UInt8}(h:o∈Tr.relOps∨o∈Tr.addOps∨o∈Tr.mulOps):[[61],[35],[60],[60,61],[62],[62,61],[73,78],[73,83],[43],[45],[79,82],[42],[47],[68,73,86],[77,79,68],[38]].contains o=true:=by
 have k:(Tr.relOps++Tr.addOps++Tr.mulOps).all (fun x=>[[61],[35],[60],[60,61],[62],[62,61],[73,78],[73,83],[43],[45],[79,82],[42],[47],[68,73,86],[77,79,68],[38]].contains x)=true:=by decide +kernel
 refine List.all_eq_true.1 k o ?_
 rw [List.mem_append,List.mem_append]
 rcases h with h|h|h
 ·exact .inl (.inl h)
 ·exact .inl (.inr h)
 ·exact .inr h
theorem expr_all:∀(n:Nat) (e:Tr.Ex),SizeOf.sizeOf e<n→Tr.WE e→PrD rowV Gx (fun _=>True) 123 #[] (exD e):=by
 intro n
 induction n with
 | zero=>intro e h;omega
 | succ n ih =>
  intro e hz hw
  have one:∀{a:Tr.Ex} {xs:List Tr.Ex},SizeOf.sizeOf xs<n→a∈xs→Tr.WE a→PrD rowV Gx (fun _=>True) 123 #[] (exD a):=fun h hm ha=>ih _ (by have:=List.sizeOf_lt_of_mem hm;omega) ha
  have hz2:∀(k n0:Int) (t o:List UInt8) (xs:List Tr.Ex) (p:Int),e=.mk k n0 t o xs p→SizeOf.sizeOf xs<n:=by
   intro k n0 t o xs p he
   subst he
   simp only [Tr.Ex.mk.sizeOf_spec]at hz
   omega
  cases hw with
  | int n0 p h=>exact expr_int [] n0 p [] (Tr.exDs_mem fun x hx=>by cases hx) rfl (plain_int _ n0 p [] [] h)
  | chr n0 p h=>exact expr_chr [] n0 p [] (Tr.exDs_mem fun x hx=>by cases hx) rfl (plain_chr _ n0 p [] [] h)
  | txt t p h=>exact expr_txt [] 0 p t (Tr.exDs_mem fun x hx=>by cases hx) rfl (plain_txt _ 0 p t [] h)
  | nil p=>exact expr_nil [] p (Tr.exDs_mem fun x hx=>by cases hx) rfl
  | bool n0 p h=>exact expr_bool [] n0 p [] (Tr.exDs_mem fun x hx=>by cases hx) rfl (plain_bool _ n0 p [] [] h rfl)
  | set xs p h=>exact expr_set xs p (Tr.exDs_mem fun x hx=>label_yes n ih x (by have:=List.sizeOf_lt_of_mem hx;have:=hz2 _ _ _ _ _ _ rfl;omega) (Tr.allP_mem h x hx))
  | name t p h=>exact expr_name [] p t (Tr.exDs_mem fun x hx=>by cases hx) rfl h
  | dot t a p h ha hd=>exact expr_dot [a] p t (Tr.exDs_mem fun x hx=>by rcases List.mem_singleton.1 hx with rfl;exact one (hz2 _ _ _ _ _ _ rfl) hx ha) rfl h a (by simp [exDs]) hd
  | index a b p ha hd hb=>exact expr_index [a,b] p (Tr.exDs_mem fun x hx=>one (hz2 _ _ _ _ _ _ rfl) hx (by rcases List.mem_cons.1 hx with rfl|hx;exact ha;rcases List.mem_singleton.1 hx with rfl;exact hb)) rfl a (by simp [exDs]) hd
  | deref a p ha hd=>exact expr_deref [a] p (Tr.exDs_mem fun x hx=>by rcases List.mem_singleton.1 hx with rfl;exact one (hz2 _ _ _ _ _ _ rfl) hx ha) rfl a (by simp [exDs]) hd
  | call a xs p ha hd h=>exact expr_call (a::xs) p (Tr.exDs_mem fun x hx=>one (hz2 _ _ _ _ _ _ rfl) hx (by rcases List.mem_cons.1 hx with rfl|hx;exact ha;exact Tr.allP_mem h x hx)) (by simp only [List.length_cons];omega) a (by simp [exDs]) hd
  | unary o a p ho ha=>exact expr_unary [a] p o (Tr.exDs_mem fun x hx=>by rcases List.mem_singleton.1 hx with rfl;exact one (hz2 _ _ _ _ _ _ rfl) hx ha) rfl (by rcases ho with rfl|rfl|rfl <;> decide)
  | binary o a b p ho ha hb=>exact expr_binary [a,b] p o (Tr.exDs_mem fun x hx=>one (hz2 _ _ _ _ _ _ rfl) hx (by rcases List.mem_cons.1 hx with rfl|hx;exact ha;rcases List.mem_singleton.1 hx with rfl;exact hb)) rfl (contains_ops ho)
theorem expr_yes(e:Tr.Ex)(h:Tr.WE e):PrD rowV Gx (fun _=>True) 123 #[] (exD e):=expr_all _ e (Nat.lt_succ_self _) h
theorem lab_yes(e:Tr.Ex)(h:Tr.WL Tr.WE e):PrD rowV Gx (fun _=>True) 138 #[] (exD e):=label_yes _ (fun e _ h=>expr_yes e h) e (Nat.lt_succ_self _) h
theorem bare_yes{k p k2 p2:Int}{m n:List UInt8}{p3:Option Addr}{q3:Option Addr}{l3 c3 d3:Nat}{p4:Option Addr}{q4:Option Addr}{l4 c4 d4:Nat}{p5:Option Addr}{q5:Option Addr}{l5 c5 d5:Nat}{p6:Option Addr}{q6:Option Addr}{l6 c6 d6:Nat}{p7:Option Addr}{q7:Option Addr}{l7 c7 d7:Nat}{p8:Option Addr}{q8:Option Addr}{l8 c8 d8:Nat}{w W:World}{g:Option Nat}{Kp:World→Prop}{R:List Fr.RI}{Ds:List (Value × Da.D)}(hF:Fr.Fm w g Kp W R Ds) :
  Calls Tryz.prog 163 #[.agg #[.int .i64 k,.string ⟨m.toArray⟩,.string ⟨n.toArray⟩,.slice p3 l3 c3,.slice p4 l4 c4,.slice p5 l5 c5,.slice p6 l6 c6,.slice p7 l7 c7,.slice p8 l8 c8,.int .i64 p],.agg #[.int .i64 k2,.string ⟨m.toArray⟩,.string ⟨n.toArray⟩,.slice q3 l3 d3,.slice q4 l4 d4,.slice q5 l5 d5,.slice q6 l6 d6,.slice q7 l7 d7,.slice q8 l8 d8,.int .i64 p2]] W fun e W'=>e=.returned (.bool true)∧Fr.Fm w g Kp W' R Ds:=by
 have HF:=hid hF
 have HM0:=hid trivial
 clear hF
 go_enter Tryz.func163,Tryz.ntmps163
 go_wp2_with (first
  | (clear HM0;(with_reducible refine is_box ?_);refine wl_box HF.out rfl rfl ?_;intro bx W1 HF1;replace HF:=hid HF1;clear HF1)
  | ((with_reducible refine is_box ?_);refine wl_box HF.out rfl rfl ?_;intro bx W1 HF1;replace HF:=hid HF1;clear HF1;have f1:=HF.out.cellAt 0 rfl 1 rfl;have f2:=HF.out.cellAt 0 rfl 2 rfl;have f3:=HF.out.cellAt 0 rfl 3 rfl;have f4:=HF.out.cellAt 0 rfl 4 rfl;have f5:=HF.out.cellAt 0 rfl 5 rfl;have f6:=HF.out.cellAt 0 rfl 6 rfl;have f7:=HF.out.cellAt 0 rfl 7 rfl;have f8:=HF.out.cellAt 0 rfl 8 rfl;have e1:=HF.out.cellAt 1 rfl 1 rfl;have e2:=HF.out.cellAt 1 rfl 2 rfl;have e3:=HF.out.cellAt 1 rfl 3 rfl;have e4:=HF.out.cellAt 1 rfl 4 rfl;have e5:=HF.out.cellAt 1 rfl 5 rfl;have e6:=HF.out.cellAt 1 rfl 6 rfl;have e7:=HF.out.cellAt 1 rfl 7 rfl;have e8:=HF.out.cellAt 1 rfl 8 rfl))
 refine bodyPost_ret (v:=.bool true) (by simp [results,Tryz.results163,go_sem];try rfl) rfl ⟨rfl,HF.out.lessR.lessR⟩
theorem qual_yes(t:Tr.Ty)(h:Tr.WQ t):PrD rowV Gx (fun _=>True) 162 #[] (tyD t):=by
 obtain⟨m,n,p,hm,hn⟩:=h
 intro w W g R Ds vs _ hF hr
 unfold tyD at hr
 obtain⟨a0,a1,a2,a3,a4,a5,a6,a7,a8,a9,rfl,ha0,ha1,ha2,ha3,ha4,ha5,ha6,ha7,ha8,ha9⟩:=row10 hr;clear hr
 obtain rfl:=is_str ha1
 obtain rfl:=is_str ha2
 obtain rfl:=is_int ha0
 obtain rfl:=is_int ha9
 clear ha0 ha1 ha2 ha9
 have HF:=hid ((((((hF.plus ha8).plus ha7).plus ha6).plus ha5).plus ha4).plus ha3)
 clear hF ha3 ha4 ha5 ha6 ha7 ha8
 rcases hm with rfl|hm
 ·skip
  have HN:=hid hn
  obtain⟨p3,c3,rfl,-,-⟩:=HF.out.daSlice (m:=0) rfl
  obtain⟨p4,c4,rfl,-,-⟩:=HF.out.daSlice (m:=1) rfl
  obtain⟨p5,c5,rfl,-,-⟩:=HF.out.daSlice (m:=2) rfl
  obtain⟨p6,c6,rfl,-,-⟩:=HF.out.daSlice (m:=3) rfl
  obtain⟨p7,c7,rfl,-,-⟩:=HF.out.daSlice (m:=4) rfl
  obtain⟨p8,c8,rfl,-,-⟩:=HF.out.daSlice (m:=5) rfl
  simp only [List.length_cons,List.length_nil,Nat.zero_add,exDs_len',Tr.tyDs_len,Tr.fdDs_len]at HF ⊢
  clear hn
  go_enter Tryz.func162,Tryz.ntmps162
  go_wp2_with (first
   | ((with_reducible refine is_box ?_);refine wl_box HF.out rfl rfl ?_;intro bx W1 HF1;replace HF:=hid HF1;clear HF1;have⟨e0,e1,e2,e3,e4,e5,e6,e7,e8⟩:=HF.out.c9)
   | (go_at_call 81;(with_reducible refine(tname_yes HN.out HF.out).mono ?_);rintro e W3 ⟨rfl,HF1⟩;replace HF:=hid HF1;clear HF1;have⟨e0,e1,e2,e3,e4,e5,e6,e7,e8⟩:=HF.out.c9)
   | ((with_reducible refine is_loadW (T:=123) ?_);(refine wl_want (by rfl) ?_);(refine wl_load 0 HF.out rfl rfl Tryz.underlying123 rfl tyT rfl ?_))
   | (go_at_call 163;(refine(bare_yes HF.out).mono ?_);rintro e W3 ⟨rfl,HF1⟩;replace HF:=hid HF1;clear HF1))
  refine bodyPost_ret (v:=.bool true) (by simp [results,Tryz.results162,go_sem];try rfl) rfl ⟨rfl,HF.out.lessR.less.less.less.less.less.less⟩
 ·skip
  have hne:¬(⟨m.toArray⟩:ByteArray)=⟨#[]⟩:=by
   intro h
   have h2:m.toArray=#[]:=congrArg ByteArray.data h
   have h3:m=[]:=by simpa using h2
   subst h3
   revert hm
   unfold Tr.NM Tk.Good
   simp [Tk.word,Tk.sign]
  have hnb:((⟨m.toArray⟩:ByteArray).toList == [])=false:=ne_bytes (l:=[]) hne
  have HN:=hid hn
  have HM:=hid hm
  obtain⟨p3,c3,rfl,-,-⟩:=HF.out.daSlice (m:=0) rfl
  obtain⟨p4,c4,rfl,-,-⟩:=HF.out.daSlice (m:=1) rfl
  obtain⟨p5,c5,rfl,-,-⟩:=HF.out.daSlice (m:=2) rfl
  obtain⟨p6,c6,rfl,-,-⟩:=HF.out.daSlice (m:=3) rfl
  obtain⟨p7,c7,rfl,-,-⟩:=HF.out.daSlice (m:=4) rfl
  obtain⟨p8,c8,rfl,-,-⟩:=HF.out.daSlice (m:=5) rfl
  simp only [List.length_cons,List.length_nil,Nat.zero_add,exDs_len',Tr.tyDs_len,Tr.fdDs_len]at HF ⊢
  clear hn hm
  go_enter Tryz.func162,Tryz.ntmps162
  go_wp2_with (first
   | ((with_reducible refine is_box ?_);refine wl_box HF.out rfl rfl ?_;intro bx W1 HF1;replace HF:=hid HF1;clear HF1;have⟨e0,e1,e2,e3,e4,e5,e6,e7,e8⟩:=HF.out.c9)
   | (go_at_call 81;(with_reducible refine(tname_yes HN.out HF.out).mono ?_);rintro e W3 ⟨rfl,HF1⟩;replace HF:=hid HF1;clear HF1;have⟨e0,e1,e2,e3,e4,e5,e6,e7,e8⟩:=HF.out.c9)
   | (go_at_call 81;(with_reducible refine(tname_yes HM.out HF.out).mono ?_);rintro e W3 ⟨rfl,HF1⟩;replace HF:=hid HF1;clear HF1;have⟨e0,e1,e2,e3,e4,e5,e6,e7,e8⟩:=HF.out.c9)
   | ((with_reducible refine is_loadW (T:=123) ?_);(refine wl_want (by rfl) ?_);(refine wl_load 0 HF.out rfl rfl Tryz.underlying123 rfl tyT rfl ?_))
   | (go_at_call 163;(refine(bare_yes HF.out).mono ?_);rintro e W3 ⟨rfl,HF1⟩;replace HF:=hid HF1;clear HF1))
  all_goals refine bodyPost_ret (v:=.bool true) (by simp [results,Tryz.results162,go_sem];try rfl) rfl ⟨rfl,HF.out.lessR.less.less.less.less.less.less⟩
theorem open_one(e:Tr.Ty)(p:Int)(h:PrD rowV Gx (fun _=>True) 172 #[] (tyD e)):PrD rowV Gx (fun _=>True) 172 #[] (tyD (.mk 6 [] [] [] [e] [] [] [] [] p)):=by
 intro w W g R Ds vs _ hF hr
 unfold tyD at hr
 obtain⟨a0,a1,a2,a3,a4,a5,a6,a7,a8,a9,rfl,ha0,ha1,ha2,ha3,ha4,ha5,ha6,ha7,ha8,ha9⟩:=row10 hr;clear hr
 obtain rfl:=is_str ha1
 obtain rfl:=is_str ha2
 obtain rfl:=is_int ha0
 obtain rfl:=is_int ha9
 clear ha0 ha1 ha2 ha9
 have HF:=hid ((((((hF.plus ha8).plus ha7).plus ha6).plus ha5).plus ha4).plus ha3)
 clear hF ha3 ha4 ha5 ha6 ha7 ha8
 have HX:=hid h
 have H0:=hid (show(tyDs [e])[0]?=some (tyD e)by simp [tyDs])
 obtain⟨p3,c3,rfl,-,hp3⟩:=HF.out.daSlice (m:=0) rfl
 obtain⟨p4,c4,rfl,-,hp4⟩:=HF.out.daSlice (m:=1) rfl
 obtain⟨p5,c5,rfl,-,hp5⟩:=HF.out.daSlice (m:=2) rfl
 obtain⟨p6,c6,rfl,-,hp6⟩:=HF.out.daSlice (m:=3) rfl
 obtain⟨p7,c7,rfl,-,hp7⟩:=HF.out.daSlice (m:=4) rfl
 obtain⟨p8,c8,rfl,-,hp8⟩:=HF.out.daSlice (m:=5) rfl
 simp only [List.length_cons,List.length_nil,Nat.zero_add,exDs_len',Tr.tyDs_len,Tr.fdDs_len]at HF hp3 hp4 hp5 hp6 hp7 hp8 ⊢
 obtain⟨b4,o4,rfl⟩:=hp4 (by omega)
 clear hp3 hp4 hp5 hp6 hp7 hp8
 clear h
 go_enter Tryz.func172,Tryz.ntmps172
 go_wp2_with (first
  | ((with_reducible refine is_box ?_);refine wl_box HF.out rfl rfl ?_;intro bx W1 HF1;replace HF:=hid HF1;clear HF1;have⟨e0,e1,e2,e3,e4,e5,e6,e7,e8⟩:=HF.out.c9)
  | ((with_reducible refine is_loadW (T:=123) ?_);(refine wl_want (by rfl) ?_);(first|(refine Fr.wl_loadAt 1 HF.out rfl 0 rfl (by first|rfl|omega) H0.out Tryz.underlying123 rfl tyT rfl ?_;intro vs hrow;have HRW:=hid hrow;clear hrow)|(refine wl_load 0 HF.out rfl rfl Tryz.underlying123 rfl tyT rfl ?_)))
  | (go_at_call 172;(refine(HX.out _ _ _ _ _ _ trivial HF.out HRW.out).mono ?_);rintro e W3 ⟨rfl,HF1⟩;replace HF:=hid HF1;clear HF1;have⟨e0,e1,e2,e3,e4,e5,e6,e7,e8⟩:=HF.out.c9)
  | (go_at_call 163;(refine(bare_yes HF.out).mono ?_);rintro e W3 ⟨rfl,HF1⟩;replace HF:=hid HF1;clear HF1))
 refine bodyPost_ret (v:=.bool true) (by simp [results,Tryz.results172,go_sem];try rfl) rfl ⟨rfl,HF.out.lessR.less.less.less.less.less.less⟩
theorem open_qual(t:Tr.Ty)(h:Tr.WQ t):PrD rowV Gx (fun _=>True) 172 #[] (tyD t):=by
 have HX:=hid (qual_yes t h)
 obtain⟨m,n,p,-,-⟩:=h
 unfold tyD at HX
 intro w W g R Ds vs _ hF hr
 unfold tyD at hr
 obtain⟨a0,a1,a2,a3,a4,a5,a6,a7,a8,a9,rfl,ha0,ha1,ha2,ha3,ha4,ha5,ha6,ha7,ha8,ha9⟩:=row10 hr;clear hr
 obtain rfl:=is_str ha1
 obtain rfl:=is_str ha2
 obtain rfl:=is_int ha0
 obtain rfl:=is_int ha9
 clear ha0 ha1 ha2 ha9
 have HF:=hid ((((((hF.plus ha8).plus ha7).plus ha6).plus ha5).plus ha4).plus ha3)
 clear hF ha3 ha4 ha5 ha6 ha7 ha8
 go_enter Tryz.func172,Tryz.ntmps172
 go_wp2_with (first
  | ((with_reducible refine is_box ?_);refine wl_box HF.out rfl rfl ?_;intro bx W1 HF1;replace HF:=hid HF1;clear HF1;have e0:=HF.out.cellAt 0 rfl 0 rfl)
  | ((with_reducible refine Fr.is_load (T:=123) ?_);(refine wl_load 0 HF.out rfl rfl Tryz.underlying123 rfl tyT rfl ?_))
  | (go_at_call 162;(refine(HX.out _ _ _ _ _ _ trivial HF.out (Da.row_cons (.int _) (Da.row_cons (.str _) (Da.row_cons (.str _) (Da.row_cons (HF.out.da 0 _ _ rfl) (Da.row_cons (HF.out.da 1 _ _ rfl) (Da.row_cons (HF.out.da 2 _ _ rfl) (Da.row_cons (HF.out.da 3 _ _ rfl) (Da.row_cons (HF.out.da 4 _ _ rfl) (Da.row_cons (HF.out.da 5 _ _ rfl) (Da.row_cons (.int _) (Da.row_nil _ _)))))))))))).mono ?_);rintro e W3 ⟨rfl,HF1⟩;replace HF:=hid HF1;clear HF1))
 refine bodyPost_ret (v:=.bool true) (by simp [results,Tryz.results172,go_sem];try rfl) rfl ⟨rfl,HF.out.lessR.less.less.less.less.less.less⟩
theorem open_yes(t:Tr.Ty)(h:Tr.WO t):PrD rowV Gx (fun _=>True) 172 #[] (tyD t):=by
 induction h with
 | qual t h=>exact open_qual t h
 | opn e p _ ih=>exact open_one e p ih
theorem param_yes(f:Tr.FT)(hn:Tr.NM f.1)(h:PrD rowV Gx (fun _=>True) 172 #[] (tyD f.2.2.1)):PrD rowV Gx (fun _=>True) 171 #[] (fdD f):=by
 obtain⟨nn,bb,t,q⟩:=f
 obtain⟨k,m,n,ls,el,ba,fs,ps,rs,p⟩:=t
 intro w W g R Ds vs _ hF hr
 unfold fdD tyD at hr
 simp only [List.cons_append,List.nil_append]at hr
 obtain⟨a0,a1,a2,a3,a4,a5,a6,a7,a8,a9,a10,a11,a12,rfl,ha0,ha1,ha2,ha3,ha4,ha5,ha6,ha7,ha8,ha9,ha10,ha11,ha12⟩:=Fr.row13 hr;clear hr
 obtain rfl:=is_str ha0
 obtain rfl:=is_str ha3
 obtain rfl:=is_str ha4
 obtain rfl:=Fr.is_bool ha1
 obtain rfl:=is_int ha2
 obtain rfl:=is_int ha11
 obtain rfl:=is_int ha12
 clear ha0 ha1 ha2 ha3 ha4 ha11 ha12
 have HF:=hid ((((((hF.plus ha10).plus ha9).plus ha8).plus ha7).plus ha6).plus ha5)
 have HN:=hid hn
 have HX:=hid h
 unfold tyD at HX
 clear hF hn h ha5 ha6 ha7 ha8 ha9 ha10
 go_enter Tryz.func171,Tryz.ntmps171
 go_wp2_with (first
  | ((with_reducible refine is_box ?_);refine wl_box HF.out rfl rfl ?_;intro bx W1 HF1;replace HF:=hid HF1;clear HF1;have e0:=HF.out.cellAt 0 rfl 0 rfl)
  | (go_at_call 81;(with_reducible refine(tname_yes HN.out HF.out).mono ?_);rintro e W3 ⟨rfl,HF1⟩;replace HF:=hid HF1;clear HF1)
  | ((with_reducible refine is_loadW (T:=123) ?_);(refine wl_want (by rfl) ?_);(refine Fr.wl_loadSub 0 HF.out (vs:=[.int .i64 k,.string ⟨m.toArray⟩,.string ⟨n.toArray⟩,a5,a6,a7,a8,a9,a10,.int .i64 p]) rfl rfl rfl Tryz.underlying123 rfl tyT rfl ?_))
  | (go_at_call 172;(refine(HX.out _ _ _ _ _ _ trivial HF.out (Da.row_cons (.int _) (Da.row_cons (.str _) (Da.row_cons (.str _) (Da.row_cons (HF.out.da 0 _ _ rfl) (Da.row_cons (HF.out.da 1 _ _ rfl) (Da.row_cons (HF.out.da 2 _ _ rfl) (Da.row_cons (HF.out.da 3 _ _ rfl) (Da.row_cons (HF.out.da 4 _ _ rfl) (Da.row_cons (HF.out.da 5 _ _ rfl) (Da.row_cons (.int _) (Da.row_nil _ _)))))))))))).mono ?_);rintro e W3 ⟨rfl,HF1⟩;replace HF:=hid HF1;clear HF1))
 refine bodyPost_ret (v:=.bool true) (by simp [results,Tryz.results171,go_sem];try rfl) rfl ⟨rfl,HF.out.lessR.less.less.less.less.less.less⟩
theorem field_yes(f:Tr.FT)(hn:Tr.NM f.1)(h:PrD rowV Gx (fun _=>True) 126 #[] (tyD f.2.2.1)):PrD rowV Gx (fun _=>True) 166 #[] (fdD f):=by
 obtain⟨nn,bb,t,q⟩:=f
 obtain⟨k,m,n,ls,el,ba,fs,ps,rs,p⟩:=t
 intro w W g R Ds vs _ hF hr
 unfold fdD tyD at hr
 simp only [List.cons_append,List.nil_append]at hr
 obtain⟨a0,a1,a2,a3,a4,a5,a6,a7,a8,a9,a10,a11,a12,rfl,ha0,ha1,ha2,ha3,ha4,ha5,ha6,ha7,ha8,ha9,ha10,ha11,ha12⟩:=Fr.row13 hr;clear hr
 obtain rfl:=is_str ha0
 obtain rfl:=is_str ha3
 obtain rfl:=is_str ha4
 obtain rfl:=Fr.is_bool ha1
 obtain rfl:=is_int ha2
 obtain rfl:=is_int ha11
 obtain rfl:=is_int ha12
 clear ha0 ha1 ha2 ha3 ha4 ha11 ha12
 have HF:=hid ((((((hF.plus ha10).plus ha9).plus ha8).plus ha7).plus ha6).plus ha5)
 have HN:=hid hn
 have HX:=hid h
 unfold tyD at HX
 clear hF hn h ha5 ha6 ha7 ha8 ha9 ha10
 go_enter Tryz.func166,Tryz.ntmps166
 go_wp2_with (first
  | ((with_reducible refine is_box ?_);refine wl_box HF.out rfl rfl ?_;intro bx W1 HF1;replace HF:=hid HF1;clear HF1;have e0:=HF.out.cellAt 0 rfl 0 rfl)
  | (go_at_call 81;(with_reducible refine(tname_yes HN.out HF.out).mono ?_);rintro e W3 ⟨rfl,HF1⟩;replace HF:=hid HF1;clear HF1)
  | ((with_reducible refine is_loadW (T:=123) ?_);(refine wl_want (by rfl) ?_);(refine Fr.wl_loadSub 0 HF.out (vs:=[.int .i64 k,.string ⟨m.toArray⟩,.string ⟨n.toArray⟩,a5,a6,a7,a8,a9,a10,.int .i64 p]) rfl rfl rfl Tryz.underlying123 rfl tyT rfl ?_))
  | (go_at_call 126;(refine(HX.out _ _ _ _ _ _ trivial HF.out (Da.row_cons (.int _) (Da.row_cons (.str _) (Da.row_cons (.str _) (Da.row_cons (HF.out.da 0 _ _ rfl) (Da.row_cons (HF.out.da 1 _ _ rfl) (Da.row_cons (HF.out.da 2 _ _ rfl) (Da.row_cons (HF.out.da 3 _ _ rfl) (Da.row_cons (HF.out.da 4 _ _ rfl) (Da.row_cons (HF.out.da 5 _ _ rfl) (Da.row_cons (.int _) (Da.row_nil _ _)))))))))))).mono ?_);rintro e W3 ⟨rfl,HF1⟩;replace HF:=hid HF1;clear HF1))
 refine bodyPost_ret (v:=.bool true) (by simp [results,Tryz.results166,go_sem];try rfl) rfl ⟨rfl,HF.out.lessR.less.less.less.less.less.less⟩
theorem formals_yes(ps:List Tr.FT)(rs:List Tr.Ty)(hp:Tr.AllP (Tr.Wf Tr.WO) ps)(hr:Tr.Most Tr.WQ rs){w W:World}{g:Option Nat}{R:List Fr.RI}{Ds:List (Value × Da.D)}(m1 m2:Nat)(v1 v2:Value)(h1:Ds[m1]?=some (v1,.list 13 (Tr.fdDs ps)))(h2:Ds[m2]?=some (v2,.list 10 (tyDs rs)))(hF:Fr.Fm w g Gx W R Ds) :
  Calls Tryz.prog 131 #[v1,v2] W fun e W'=>e=.returned (.bool true)∧Fr.Fm w g Gx W' R Ds:=by
 have hok:∀ ds∈Tr.fdDs ps,PrD rowV Gx (fun _=>True) 171 #[] ds:=(Tr.fdDs_mem fun f hf=>by
  obtain⟨n,b,t,p,hn,ht⟩:=Tr.allP_mem hp f hf
  exact param_yes (n,b,t,p) hn (open_yes t ht))
 have hok2:∀ ds∈tyDs rs,PrD rowV Gx (fun _=>True) 162 #[] ds:=(Tr.tyDs_mem fun t ht=>qual_yes t ((Tr.most_mem hr).1 t ht))
 have HA:=hid (all_tyPa Gx (fun _=>True) (fun _ _ h=>h) 171 #[] eg_formalsOf_1 _ (fun ds hd=>Tr.fdDs_len13 hd) hok)
 have HB:=hid (all_tyT Gx (fun _=>True) (fun _ _ h=>h) 162 #[] eg_qualOf _ (fun ds hd=>Tr.tyDs_len10 hd) hok2)
 have hl:=(Tr.most_mem hr).2
 obtain⟨p2,c2,rfl,-,-⟩:=hF.daSlice h2
 rw [Tr.tyDs_len]at h2 ⊢
 have hl2:(rs.length:Int)≤1:=by omega
 have HF:=hid hF
 have H1:=hid h1
 have H2:=hid h2
 clear hF h1 h2 hp hr hl hok hok2
 go_enter Tryz.func131,Tryz.ntmps131
 go_wp2_with (first
  | (go_at_call 170;(with_reducible refine(HA.out _ _ _ _ _ m1 _ trivial H1.out HF.out).mono ?_);rintro e W3 ⟨rfl,HF1⟩;replace HF:=hid HF1;clear HF1)
  | (go_at_call 164;(with_reducible refine(HB.out _ _ _ _ _ m2 _ trivial H2.out HF.out).mono ?_);rintro e W3 ⟨rfl,HF1⟩;replace HF:=hid HF1;clear HF1))
 refine bodyPost_ret (v:=.bool true) (by simp [results,Tryz.results131,go_sem];try rfl) rfl ⟨rfl,HF.out⟩
theorem type_qual(t:Tr.Ty)(h:Tr.WQ t):PrD rowV Gx (fun _=>True) 126 #[] (tyD t):=by
 have HX:=hid (qual_yes t h)
 obtain⟨m,n,p,-,-⟩:=h
 unfold tyD at HX
 intro w W g R Ds vs _ hF hr
 unfold tyD at hr
 obtain⟨a0,a1,a2,a3,a4,a5,a6,a7,a8,a9,rfl,ha0,ha1,ha2,ha3,ha4,ha5,ha6,ha7,ha8,ha9⟩:=row10 hr;clear hr
 obtain rfl:=is_str ha1
 obtain rfl:=is_str ha2
 obtain rfl:=is_int ha0
 obtain rfl:=is_int ha9
 clear ha0 ha1 ha2 ha9
 have HF:=hid ((((((hF.plus ha8).plus ha7).plus ha6).plus ha5).plus ha4).plus ha3)
 clear hF ha3 ha4 ha5 ha6 ha7 ha8
 go_enter Tryz.func126,Tryz.ntmps126
 go_wp2_with (first
  | ((with_reducible refine is_box ?_);refine wl_box HF.out rfl rfl ?_;intro bx W1 HF1;replace HF:=hid HF1;clear HF1;have e0:=HF.out.cellAt 0 rfl 0 rfl)
  | ((with_reducible refine Fr.is_load (T:=123) ?_);(refine wl_load 0 HF.out rfl rfl Tryz.underlying123 rfl tyT rfl ?_))
  | (go_at_call 162;(refine(HX.out _ _ _ _ _ _ trivial HF.out (Da.row_cons (.int _) (Da.row_cons (.str _) (Da.row_cons (.str _) (Da.row_cons (HF.out.da 0 _ _ rfl) (Da.row_cons (HF.out.da 1 _ _ rfl) (Da.row_cons (HF.out.da 2 _ _ rfl) (Da.row_cons (HF.out.da 3 _ _ rfl) (Da.row_cons (HF.out.da 4 _ _ rfl) (Da.row_cons (HF.out.da 5 _ _ rfl) (Da.row_cons (.int _) (Da.row_nil _ _)))))))))))).mono ?_);rintro e W3 ⟨rfl,HF1⟩;replace HF:=hid HF1;clear HF1))
 refine bodyPost_ret (v:=.bool true) (by simp [results,Tryz.results126,go_sem];try rfl) rfl ⟨rfl,HF.out.lessR.less.less.less.less.less.less⟩
theorem type_ptr(e:Tr.Ty)(p:Int)(he:PrD rowV Gx (fun _=>True) 126 #[] (tyD e)):PrD rowV Gx (fun _=>True) 126 #[] (tyD (.mk 4 [] [] [] [e] [] [] [] [] p)):=by
 intro w W g R Ds vs _ hF hr
 unfold tyD at hr
 obtain⟨a0,a1,a2,a3,a4,a5,a6,a7,a8,a9,rfl,ha0,ha1,ha2,ha3,ha4,ha5,ha6,ha7,ha8,ha9⟩:=row10 hr;clear hr
 obtain rfl:=is_str ha1
 obtain rfl:=is_str ha2
 obtain rfl:=is_int ha0
 obtain rfl:=is_int ha9
 clear ha0 ha1 ha2 ha9
 have HF:=hid ((((((hF.plus ha8).plus ha7).plus ha6).plus ha5).plus ha4).plus ha3)
 clear hF ha3 ha4 ha5 ha6 ha7 ha8
 have HX:=hid he
 have H0:=hid (show(tyDs [e])[0]?=some (tyD e)by simp [tyDs])
 clear he
 obtain⟨p3,c3,rfl,-,hp3⟩:=HF.out.daSlice (m:=0) rfl
 obtain⟨p4,c4,rfl,-,hp4⟩:=HF.out.daSlice (m:=1) rfl
 obtain⟨p5,c5,rfl,-,hp5⟩:=HF.out.daSlice (m:=2) rfl
 obtain⟨p6,c6,rfl,-,hp6⟩:=HF.out.daSlice (m:=3) rfl
 obtain⟨p7,c7,rfl,-,hp7⟩:=HF.out.daSlice (m:=4) rfl
 obtain⟨p8,c8,rfl,-,hp8⟩:=HF.out.daSlice (m:=5) rfl
 simp only [List.length_cons,List.length_nil,Nat.zero_add,exDs_len',Tr.tyDs_len,Tr.fdDs_len]at HF hp3 hp4 hp5 hp6 hp7 hp8 ⊢
 obtain⟨b4,o4,rfl⟩:=hp4 (by omega)
 clear hp3 hp4 hp5 hp6 hp7 hp8
 go_enter Tryz.func126,Tryz.ntmps126
 go_wp2_with (first
  | ((with_reducible refine is_box ?_);refine wl_box HF.out rfl rfl ?_;intro bx W1 HF1;replace HF:=hid HF1;clear HF1;have⟨e0,e1,e2,e3,e4,e5,e6,e7,e8⟩:=HF.out.c9)
  | ((with_reducible refine is_loadW (T:=123) ?_);(refine wl_want (by rfl) ?_);(first|(refine Fr.wl_loadAt 1 HF.out rfl 0 rfl (by first|rfl|omega) H0.out Tryz.underlying123 rfl tyT rfl ?_;intro vs hrow;have HRW:=hid hrow;clear hrow)|(refine wl_load 0 HF.out rfl rfl Tryz.underlying123 rfl tyT rfl ?_)))
  | (go_at_call 126;(refine(HX.out _ _ _ _ _ _ trivial HF.out HRW.out).mono ?_);rintro e W3 ⟨rfl,HF1⟩;replace HF:=hid HF1;clear HF1;have⟨e0,e1,e2,e3,e4,e5,e6,e7,e8⟩:=HF.out.c9)
  | (go_at_call 163;(refine(bare_yes HF.out).mono ?_);rintro e W3 ⟨rfl,HF1⟩;replace HF:=hid HF1;clear HF1))
 refine bodyPost_ret (v:=.bool true) (by simp [results,Tryz.results126,go_sem];try rfl) rfl ⟨rfl,HF.out.lessR.less.less.less.less.less.less⟩
theorem type_arr(ls:List Tr.Ex)(e:Tr.Ty)(p:Int)(hpos:(0:Int)<(ls.length:Int))(hok:∀ ds∈exDs ls,PrD rowV Gx (fun _=>True) 123 #[] ds)(he:PrD rowV Gx (fun _=>True) 126 #[] (tyD e)):PrD rowV Gx (fun _=>True) 126 #[] (tyD (.mk 2 [] [] ls [e] [] [] [] [] p)):=by
 intro w W g R Ds vs _ hF hr
 unfold tyD at hr
 obtain⟨a0,a1,a2,a3,a4,a5,a6,a7,a8,a9,rfl,ha0,ha1,ha2,ha3,ha4,ha5,ha6,ha7,ha8,ha9⟩:=row10 hr;clear hr
 obtain rfl:=is_str ha1
 obtain rfl:=is_str ha2
 obtain rfl:=is_int ha0
 obtain rfl:=is_int ha9
 clear ha0 ha1 ha2 ha9
 have HF:=hid ((((((hF.plus ha8).plus ha7).plus ha6).plus ha5).plus ha4).plus ha3)
 clear hF ha3 ha4 ha5 ha6 ha7 ha8
 have HX:=hid he
 have H0:=hid (show(tyDs [e])[0]?=some (tyD e)by simp [tyDs])
 clear he
 have HA:=hid (all_tyE Gx (fun _=>True) (fun _ _ h=>h) 123 #[] eg_exprOf _ (fun ds hd=>Tr.exDs_len6 hd) hok)
 clear hok
 obtain⟨p3,c3,rfl,-,hp3⟩:=HF.out.daSlice (m:=0) rfl
 obtain⟨p4,c4,rfl,-,hp4⟩:=HF.out.daSlice (m:=1) rfl
 obtain⟨p5,c5,rfl,-,hp5⟩:=HF.out.daSlice (m:=2) rfl
 obtain⟨p6,c6,rfl,-,hp6⟩:=HF.out.daSlice (m:=3) rfl
 obtain⟨p7,c7,rfl,-,hp7⟩:=HF.out.daSlice (m:=4) rfl
 obtain⟨p8,c8,rfl,-,hp8⟩:=HF.out.daSlice (m:=5) rfl
 simp only [List.length_cons,List.length_nil,Nat.zero_add,exDs_len',Tr.tyDs_len,Tr.fdDs_len]at HF hp3 hp4 hp5 hp6 hp7 hp8 ⊢
 obtain⟨b4,o4,rfl⟩:=hp4 (by omega)
 clear hp3 hp4 hp5 hp6 hp7 hp8
 go_enter Tryz.func126,Tryz.ntmps126
 go_wp2_with (first
  | ((with_reducible refine is_box ?_);refine wl_box HF.out rfl rfl ?_;intro bx W1 HF1;replace HF:=hid HF1;clear HF1;have⟨e0,e1,e2,e3,e4,e5,e6,e7,e8⟩:=HF.out.c9)
  | (go_at_call 132;(with_reducible refine(HA.out _ _ _ _ _ 0 _ trivial rfl HF.out).mono ?_);rintro e W3 ⟨rfl,HF1⟩;replace HF:=hid HF1;clear HF1;have⟨e0,e1,e2,e3,e4,e5,e6,e7,e8⟩:=HF.out.c9)
  | ((with_reducible refine is_loadW (T:=123) ?_);(refine wl_want (by rfl) ?_);(first|(refine Fr.wl_loadAt 1 HF.out rfl 0 rfl (by first|rfl|omega) H0.out Tryz.underlying123 rfl tyT rfl ?_;intro vs hrow;have HRW:=hid hrow;clear hrow)|(refine wl_load 0 HF.out rfl rfl Tryz.underlying123 rfl tyT rfl ?_)))
  | (go_at_call 126;(refine(HX.out _ _ _ _ _ _ trivial HF.out HRW.out).mono ?_);rintro e W3 ⟨rfl,HF1⟩;replace HF:=hid HF1;clear HF1;have⟨e0,e1,e2,e3,e4,e5,e6,e7,e8⟩:=HF.out.c9)
  | (go_at_call 163;(refine(bare_yes HF.out).mono ?_);rintro e W3 ⟨rfl,HF1⟩;replace HF:=hid HF1;clear HF1))
 refine bodyPost_ret (v:=.bool true) (by simp [results,Tryz.results126,go_sem];try rfl) rfl ⟨rfl,HF.out.lessR.less.less.less.less.less.less⟩
theorem type_rcd(bs:List Tr.Ty)(fs:List Tr.FT)(p:Int)(hb:Tr.Most Tr.WQ bs)(hf:∀ ds∈Tr.fdDs fs,PrD rowV Gx (fun _=>True) 166 #[] ds):PrD rowV Gx (fun _=>True) 126 #[] (tyD (.mk 3 [] [] [] [] bs fs [] [] p)):=by
 intro w W g R Ds vs _ hF hr
 unfold tyD at hr
 obtain⟨a0,a1,a2,a3,a4,a5,a6,a7,a8,a9,rfl,ha0,ha1,ha2,ha3,ha4,ha5,ha6,ha7,ha8,ha9⟩:=row10 hr;clear hr
 obtain rfl:=is_str ha1
 obtain rfl:=is_str ha2
 obtain rfl:=is_int ha0
 obtain rfl:=is_int ha9
 clear ha0 ha1 ha2 ha9
 have HF:=hid ((((((hF.plus ha8).plus ha7).plus ha6).plus ha5).plus ha4).plus ha3)
 clear hF ha3 ha4 ha5 ha6 ha7 ha8
 have hok:∀ ds∈tyDs bs,PrD rowV Gx (fun _=>True) 162 #[] ds:=(Tr.tyDs_mem fun t ht=>qual_yes t ((Tr.most_mem hb).1 t ht))
 have HA:=hid (all_tyT Gx (fun _=>True) (fun _ _ h=>h) 162 #[] eg_qualOf _ (fun ds hd=>Tr.tyDs_len10 hd) hok)
 have HB:=hid (all_tyF Gx (fun _=>True) (fun _ _ h=>h) 166 #[] eg_typeOf_1 _ (fun ds hd=>Tr.fdDs_len13 hd) hf)
 have hl:=(Tr.most_mem hb).2
 have hl2:(bs.length:Int)≤1:=by omega
 clear hb hf hl hok
 obtain⟨p3,c3,rfl,-,hp3⟩:=HF.out.daSlice (m:=0) rfl
 obtain⟨p4,c4,rfl,-,hp4⟩:=HF.out.daSlice (m:=1) rfl
 obtain⟨p5,c5,rfl,-,hp5⟩:=HF.out.daSlice (m:=2) rfl
 obtain⟨p6,c6,rfl,-,hp6⟩:=HF.out.daSlice (m:=3) rfl
 obtain⟨p7,c7,rfl,-,hp7⟩:=HF.out.daSlice (m:=4) rfl
 obtain⟨p8,c8,rfl,-,hp8⟩:=HF.out.daSlice (m:=5) rfl
 simp only [List.length_cons,List.length_nil,Nat.zero_add,exDs_len',Tr.tyDs_len,Tr.fdDs_len]at HF hp3 hp4 hp5 hp6 hp7 hp8 ⊢
 clear hp3 hp4 hp5 hp6 hp7 hp8
 go_enter Tryz.func126,Tryz.ntmps126
 go_wp2_with (first
  | ((with_reducible refine is_box ?_);refine wl_box HF.out rfl rfl ?_;intro bx W1 HF1;replace HF:=hid HF1;clear HF1;have⟨e0,e1,e2,e3,e4,e5,e6,e7,e8⟩:=HF.out.c9)
  | (go_at_call 164;(with_reducible refine(HA.out _ _ _ _ _ 2 _ trivial rfl HF.out).mono ?_);rintro e W3 ⟨rfl,HF1⟩;replace HF:=hid HF1;clear HF1;have⟨e0,e1,e2,e3,e4,e5,e6,e7,e8⟩:=HF.out.c9)
  | (go_at_call 165;(with_reducible refine(HB.out _ _ _ _ _ 3 _ trivial rfl HF.out).mono ?_);rintro e W3 ⟨rfl,HF1⟩;replace HF:=hid HF1;clear HF1;have⟨e0,e1,e2,e3,e4,e5,e6,e7,e8⟩:=HF.out.c9)
  | ((with_reducible refine is_loadW (T:=123) ?_);(refine wl_want (by rfl) ?_);(refine wl_load 0 HF.out rfl rfl Tryz.underlying123 rfl tyT rfl ?_))
  | (go_at_call 163;(refine(bare_yes HF.out).mono ?_);rintro e W3 ⟨rfl,HF1⟩;replace HF:=hid HF1;clear HF1))
 refine bodyPost_ret (v:=.bool true) (by simp [results,Tryz.results126,go_sem];try rfl) rfl ⟨rfl,HF.out.lessR.less.less.less.less.less.less⟩
theorem type_prc(ps:List Tr.FT)(rs:List Tr.Ty)(p:Int)(hp:Tr.AllP (Tr.Wf Tr.WO) ps)(hr2:Tr.Most Tr.WQ rs):PrD rowV Gx (fun _=>True) 126 #[] (tyD (.mk 5 [] [] [] [] [] [] ps rs p)):=by
 intro w W g R Ds vs _ hF hr
 unfold tyD at hr
 obtain⟨a0,a1,a2,a3,a4,a5,a6,a7,a8,a9,rfl,ha0,ha1,ha2,ha3,ha4,ha5,ha6,ha7,ha8,ha9⟩:=row10 hr;clear hr
 obtain rfl:=is_str ha1
 obtain rfl:=is_str ha2
 obtain rfl:=is_int ha0
 obtain rfl:=is_int ha9
 clear ha0 ha1 ha2 ha9
 have HF:=hid ((((((hF.plus ha8).plus ha7).plus ha6).plus ha5).plus ha4).plus ha3)
 clear hF ha3 ha4 ha5 ha6 ha7 ha8
 have HFO:=hid hp
 have HR2:=hid hr2
 clear hp hr2
 obtain⟨p3,c3,rfl,-,hp3⟩:=HF.out.daSlice (m:=0) rfl
 obtain⟨p4,c4,rfl,-,hp4⟩:=HF.out.daSlice (m:=1) rfl
 obtain⟨p5,c5,rfl,-,hp5⟩:=HF.out.daSlice (m:=2) rfl
 obtain⟨p6,c6,rfl,-,hp6⟩:=HF.out.daSlice (m:=3) rfl
 obtain⟨p7,c7,rfl,-,hp7⟩:=HF.out.daSlice (m:=4) rfl
 obtain⟨p8,c8,rfl,-,hp8⟩:=HF.out.daSlice (m:=5) rfl
 simp only [List.length_cons,List.length_nil,Nat.zero_add,exDs_len',Tr.tyDs_len,Tr.fdDs_len]at HF hp3 hp4 hp5 hp6 hp7 hp8 ⊢
 clear hp3 hp4 hp5 hp6 hp7 hp8
 go_enter Tryz.func126,Tryz.ntmps126
 go_wp2_with (first
  | ((with_reducible refine is_box ?_);refine wl_box HF.out rfl rfl ?_;intro bx W1 HF1;replace HF:=hid HF1;clear HF1;have⟨e0,e1,e2,e3,e4,e5,e6,e7,e8⟩:=HF.out.c9)
  | (go_at_call 131;(refine(formals_yes ps rs HFO.out HR2.out 4 5 _ _ rfl rfl HF.out).mono ?_);rintro e W3 ⟨rfl,HF1⟩;replace HF:=hid HF1;clear HF1;have⟨e0,e1,e2,e3,e4,e5,e6,e7,e8⟩:=HF.out.c9)
  | ((with_reducible refine is_loadW (T:=123) ?_);(refine wl_want (by rfl) ?_);(refine wl_load 0 HF.out rfl rfl Tryz.underlying123 rfl tyT rfl ?_))
  | (go_at_call 163;(refine(bare_yes HF.out).mono ?_);rintro e W3 ⟨rfl,HF1⟩;replace HF:=hid HF1;clear HF1))
 refine bodyPost_ret (v:=.bool true) (by simp [results,Tryz.results126,go_sem];try rfl) rfl ⟨rfl,HF.out.lessR.less.less.less.less.less.less⟩
theorem type_all:∀(n:Nat) (t:Tr.Ty),SizeOf.sizeOf t<n→Tr.WT t→PrD rowV Gx (fun _=>True) 126 #[] (tyD t):=by
 intro n
 induction n with
 | zero=>intro t h;omega
 | succ n ih =>
  intro t hz hw
  cases hw with
  | qual t h=>exact type_qual t h
  | arr x xs e p hx he =>
   simp only [Tr.Ty.mk.sizeOf_spec,List.cons.sizeOf_spec]at hz
   exact type_arr (x::xs) e p (by simp only [List.length_cons];omega) (Tr.exDs_mem fun a ha=>expr_yes a (Tr.allP_mem hx a ha)) (ih e (by omega) he)
  | rcd bs fs p hb hf =>
   simp only [Tr.Ty.mk.sizeOf_spec]at hz
   refine type_rcd bs fs p hb (Tr.fdDs_mem fun f hm=>?_)
   have h1:=List.sizeOf_lt_of_mem hm
   obtain⟨a,b,c,d,hn,hc⟩:=Tr.allP_mem hf f hm
   simp only [Prod.mk.sizeOf_spec]at h1
   exact field_yes (a,b,c,d) hn (ih c (by omega) hc)
  | ptr e p he =>
   simp only [Tr.Ty.mk.sizeOf_spec,List.cons.sizeOf_spec]at hz
   exact type_ptr e p (ih e (by omega) he)
  | prc ps rs p hp hr=>exact type_prc ps rs p hp hr
theorem type_yes(t:Tr.Ty)(h:Tr.WT t):PrD rowV Gx (fun _=>True) 126 #[] (tyD t):=type_all _ t (Nat.lt_succ_self _) h
end Go.Proofs.YtlhmkfcbldghfaaGreatDoor
