/- The walks of tree's name,plainOf and designs: they answer true where they should. Conditions: the library's variables are as they were laid;what is asked is good. -/
import Derived.Test.YtlhmkfcbldghfaaGreatDoorSnA
import Derived.Test.YtlhmkfcbldghfaaGreatDoorTokTx
import Derived.Test.YtlhmkfcbldghfaaGreatDoorTxP
namespace Go.Proofs.YtlhmkfcbldghfaaGreatDoor
set_option linter.all false
open Go.Lib (hid)
set_option maxRecDepth 1000000
set_option maxHeartbeats 16000000
open Go.RowKit
open Fr (is_box is_int is_store is_str row_inv row_inv0 setL tyTok wl_box wl_store)
open Tr (exD)
namespace Tk
theorem text_one{t:Tok}(hg:goodT t)(hs:smallT t):∃ l,textR [t]=.ok l:=by
 unfold textR
 rw [if_neg (by simp),if_pos (by simpa using hg),if_neg]
 ·exact⟨_,rfl⟩
 ·have h:=joinS_len ([t].map spellT) (by simpa using spell_len hs hg)
  unfold sentT
  simp only [List.map_cons,List.map_nil,List.length_cons,List.length_nil]at h ⊢
  omega
theorem good_goodT{t:Tok}(h:Good t.1 t.2.1 t.2.2.1):goodT t∧smallT t:=by
 refine⟨h,by have:=(Tr.good_len h).2.2;omega,?_⟩
 unfold Good at h
 omega
end Tk
theorem reads_one_tk{W:World}{P:Nat→Prop}{v:Value}{t:Tk.Tok}(h:Da.Is W P v (.list 4 [[.int t.1,.str t.2.1,.int t.2.2.1,.int t.2.2.2]])):Reads W v 1 4 (Tk.tokCells [t]):=by
 obtain⟨xs,p,c,rfl,h1,h2,_⟩:=h.reads
 simp only [List.flatten_cons,List.flatten_nil,List.append_nil]at h2
 obtain⟨c0,_,rfl,h3,h2⟩:=row_inv h2
 obtain⟨c1,_,rfl,h4,h2⟩:=row_inv h2
 obtain⟨c2,_,rfl,h5,h2⟩:=row_inv h2
 obtain⟨c3,_,rfl,h6,h2⟩:=row_inv h2
 obtain rfl:=row_inv0 h2
 obtain rfl:=is_int h3
 obtain rfl:=is_str h4
 obtain rfl:=is_int h5
 obtain rfl:=is_int h6
 exact h1
theorem text_yes{w W:World}{g:Option Nat}{R:List Fr.RI}{Ds:List (Value × Da.D)}{v:Value}(t:Tk.Tok)(h:Tk.Good t.1 t.2.1 t.2.2.1)(hF:Fr.Fm w g Gx W R ((v,.list 4 [[.int t.1,.str t.2.1,.int t.2.2.1,.int t.2.2.2]])::Ds)) :
  Calls Tryz.prog 118 #[v] W fun e W'=>(∃ s,e=.returned (.tuple #[.string s,.int .i64 0]))∧Fr.Fm w g Gx W' R Ds:=by
 obtain⟨hg,hs⟩:=Tk.good_goodT h
 obtain⟨l,hl⟩:=Tk.text_one hg hs
 refine(ttext_any v [t] W hF.kp (reads_one_tk (hF.da 0 _ _ rfl)) (by simpa using hs) (by simp)).mono fun e W' h'=>?_
 rw [hl]at h'
 obtain⟨h1,g',rfl⟩:=h'
 exact⟨⟨_,h1⟩,(hF.below (below_more (Below.refl _ _) (Nat.le_refl _) g')).less⟩
theorem tname_yes{t:List UInt8}(h:Tr.NM t){w W:World}{g:Option Nat}{R:List Fr.RI}{Ds:List (Value × Da.D)}(hF:Fr.Fm w g Gx W R Ds) :
  Calls Tryz.prog 81 #[.string ⟨t.toArray⟩] W fun e W'=>e=.returned (.bool true)∧Fr.Fm w g Gx W' R Ds:=by
 have HF:=hid hF
 have HN:=hid (show Tk.Good 1 t 0 from h)
 clear hF h
 go_enter Tryz.func81,Tryz.ntmps81
 go_wp2_with (first
  | ((with_reducible refine Fr.is_lit ?_);(refine Fr.wl_lit1 HF.out Tryz.underlying35 tyTok (by simp) (by simp) rfl rfl rfl ([Da.D.int 1,Da.D.str t,Da.D.int 0,Da.D.int 0]) ?_ ?_);(focus(exact Da.row_cons (.int _) (Da.row_cons (.str _) (Da.row_cons (.int _) (Da.row_cons (.int _) (Da.row_nil _ _))))));intro b W1 HF1;replace HF:=hid HF1;clear HF1)
  | (go_at_call 118;(refine(text_yes (1,t,0,0) HN.out HF.out).mono ?_);rintro e W3 ⟨⟨s,rfl⟩,HF1⟩;replace HF:=hid HF1;clear HF1))
 refine bodyPost_ret (v:=.bool true) (by simp [results,Tryz.results81,go_sem];try rfl) rfl ⟨rfl,HF.out⟩
theorem designs_yes(Kp:World→Prop)(I:List Fr.RI→Prop)(a:Tr.Ex)(ha:Tr.Des a):PrD rowV Kp I 135 #[] (exD a):=by
 intro w W g R Ds vs _ hF hr
 obtain⟨k,n,t,o,xs,p⟩:=a
 unfold Tr.Des at ha
 simp only at ha
 unfold exD at hr
 obtain⟨c0,_,rfl,h0,hr⟩:=row_inv hr
 obtain⟨c1,_,rfl,h1,hr⟩:=row_inv hr
 obtain⟨c2,_,rfl,h2,hr⟩:=row_inv hr
 obtain⟨c3,_,rfl,h3,hr⟩:=row_inv hr
 obtain⟨c4,_,rfl,h4,hr⟩:=row_inv hr
 obtain⟨c5,_,rfl,h5,hr⟩:=row_inv hr
 obtain rfl:=row_inv0 hr
 obtain rfl:=is_int h0
 obtain rfl:=is_int h1
 obtain rfl:=is_str h2
 obtain rfl:=is_str h3
 obtain rfl:=is_int h5
 clear h0 h1 h2 h3 h5 hr
 have HF:=hid hF
 clear hF h4
 rcases ha with rfl|rfl|rfl|rfl|rfl
 all_goals
  go_enter Tryz.func135,Tryz.ntmps135
  go_wp2_with (first
   | ((with_reducible refine is_box ?_);refine wl_box HF.out rfl rfl ?_;intro bx W1 HF1;replace HF:=hid HF1;clear HF1;have e0:=HF.out.cellAt 0 rfl 0 rfl))
  refine bodyPost_ret (v:=.bool true) (by simp [results,Tryz.results135,go_sem];try rfl) rfl ⟨rfl,HF.out.lessR⟩
theorem plain_int(I:List Fr.RI→Prop)(n p:Int)(t:List UInt8)(xs:List Tr.Ex)(h:Tk.Good 3 t n):PrD rowV Gx I 158 #[] (exD (.mk 1 n t [] xs p)):=by
 intro w W g R Ds vs _ hF hr
 unfold exD at hr
 obtain⟨c0,_,rfl,h0,hr⟩:=row_inv hr
 obtain⟨c1,_,rfl,h1,hr⟩:=row_inv hr
 obtain⟨c2,_,rfl,h2,hr⟩:=row_inv hr
 obtain⟨c3,_,rfl,h3,hr⟩:=row_inv hr
 obtain⟨c4,_,rfl,h4,hr⟩:=row_inv hr
 obtain⟨c5,_,rfl,h5,hr⟩:=row_inv hr
 obtain rfl:=row_inv0 hr
 obtain rfl:=is_int h0
 obtain rfl:=is_int h1
 obtain rfl:=is_str h2
 obtain rfl:=is_str h3
 obtain rfl:=is_int h5
 clear h0 h1 h2 h3 h5 hr
 have HF:=hid hF
 have HN:=hid h
 clear h
 clear hF h4
 go_enter Tryz.func158,Tryz.ntmps158
 go_wp2_with (first
  | ((with_reducible refine is_box ?_);refine wl_box HF.out rfl rfl ?_;intro bx W1 HF1;replace HF:=hid HF1;clear HF1;have⟨e0,e1,e2⟩:=HF.out.c3)
  | ((with_reducible refine Fr.is_alloc ?_);refine Fr.wl_alloc HF.out tyTok ?_;intro b1 W1 HF1;replace HF:=hid HF1;clear HF1;have e0:=HF.out.cellAt 1 rfl 0 rfl;have e1:=HF.out.cellAt 1 rfl 1 rfl;have e2:=HF.out.cellAt 1 rfl 2 rfl)
  | ((with_reducible refine is_store (T:=40) ?_);(refine wl_store 0 HF.out tyTok rfl rfl rfl rfl rfl (z4 rfl) (by simp [Value.oneCell']) ?_);intro W1 HF1;simp only [setL,z0,z1]at HF1;replace HF:=hid HF1;clear HF1;have e0:=HF.out.cellAt 1 rfl 0 rfl;have e1:=HF.out.cellAt 1 rfl 1 rfl;have e2:=HF.out.cellAt 1 rfl 2 rfl)
  | ((with_reducible refine is_store (T:=3) ?_);(refine wl_store 0 HF.out Fr.tyInt rfl rfl rfl rfl rfl (z4 rfl) (by simp [Value.oneCell']) ?_);intro W1 HF1;simp only [setL,z0,z1]at HF1;replace HF:=hid HF1;clear HF1;have e0:=HF.out.cellAt 1 rfl 0 rfl;have e1:=HF.out.cellAt 1 rfl 1 rfl;have e2:=HF.out.cellAt 1 rfl 2 rfl)
  | ((with_reducible refine Fr.is_load (T:=40) ?_);(refine Fr.wl_load 0 HF.out rfl rfl Tryz.underlying40 rfl tyTok rfl ?_))
  | ((with_reducible refine Fr.is_lit ?_);(refine Fr.wl_lit1 HF.out Tryz.underlying35 tyTok (by simp) (by simp) rfl rfl rfl ([Da.D.int 3,Da.D.str t,Da.D.int n,Da.D.int 0]) ?_ ?_);(focus(exact Da.row_cons (.int _) (Da.row_cons (.str _) (Da.row_cons (.int _) (Da.row_cons (.int _) (Da.row_nil _ _))))));intro b W1 HF1;replace HF:=hid HF1;clear HF1)
  | (go_at_call 118;(refine(text_yes (3,t,n,0) HN.out HF.out).mono ?_);rintro e W3 ⟨⟨s,rfl⟩,HF1⟩;replace HF:=hid HF1;clear HF1))
 refine bodyPost_ret (v:=.bool true) (by simp [results,Tryz.results158,go_sem];try rfl) rfl ⟨rfl,HF.out.lessR.lessR⟩
theorem plain_chr(I:List Fr.RI→Prop)(n p:Int)(t:List UInt8)(xs:List Tr.Ex)(h:Tk.Good 4 t n):PrD rowV Gx I 158 #[] (exD (.mk 2 n t [] xs p)):=by
 intro w W g R Ds vs _ hF hr
 unfold exD at hr
 obtain⟨c0,_,rfl,h0,hr⟩:=row_inv hr
 obtain⟨c1,_,rfl,h1,hr⟩:=row_inv hr
 obtain⟨c2,_,rfl,h2,hr⟩:=row_inv hr
 obtain⟨c3,_,rfl,h3,hr⟩:=row_inv hr
 obtain⟨c4,_,rfl,h4,hr⟩:=row_inv hr
 obtain⟨c5,_,rfl,h5,hr⟩:=row_inv hr
 obtain rfl:=row_inv0 hr
 obtain rfl:=is_int h0
 obtain rfl:=is_int h1
 obtain rfl:=is_str h2
 obtain rfl:=is_str h3
 obtain rfl:=is_int h5
 clear h0 h1 h2 h3 h5 hr
 have HF:=hid hF
 have HN:=hid h
 clear h
 clear hF h4
 go_enter Tryz.func158,Tryz.ntmps158
 go_wp2_with (first
  | ((with_reducible refine is_box ?_);refine wl_box HF.out rfl rfl ?_;intro bx W1 HF1;replace HF:=hid HF1;clear HF1;have⟨e0,e1,e2⟩:=HF.out.c3)
  | ((with_reducible refine Fr.is_alloc ?_);refine Fr.wl_alloc HF.out tyTok ?_;intro b1 W1 HF1;replace HF:=hid HF1;clear HF1;have e0:=HF.out.cellAt 1 rfl 0 rfl;have e1:=HF.out.cellAt 1 rfl 1 rfl;have e2:=HF.out.cellAt 1 rfl 2 rfl)
  | ((with_reducible refine is_store (T:=40) ?_);(refine wl_store 0 HF.out tyTok rfl rfl rfl rfl rfl (z4 rfl) (by simp [Value.oneCell']) ?_);intro W1 HF1;simp only [setL,z0,z1]at HF1;replace HF:=hid HF1;clear HF1;have e0:=HF.out.cellAt 1 rfl 0 rfl;have e1:=HF.out.cellAt 1 rfl 1 rfl;have e2:=HF.out.cellAt 1 rfl 2 rfl)
  | ((with_reducible refine is_store (T:=3) ?_);(refine wl_store 0 HF.out Fr.tyInt rfl rfl rfl rfl rfl (z4 rfl) (by simp [Value.oneCell']) ?_);intro W1 HF1;simp only [setL,z0,z1]at HF1;replace HF:=hid HF1;clear HF1;have e0:=HF.out.cellAt 1 rfl 0 rfl;have e1:=HF.out.cellAt 1 rfl 1 rfl;have e2:=HF.out.cellAt 1 rfl 2 rfl)
  | ((with_reducible refine Fr.is_load (T:=40) ?_);(refine Fr.wl_load 0 HF.out rfl rfl Tryz.underlying40 rfl tyTok rfl ?_))
  | ((with_reducible refine Fr.is_lit ?_);(refine Fr.wl_lit1 HF.out Tryz.underlying35 tyTok (by simp) (by simp) rfl rfl rfl ([Da.D.int 4,Da.D.str t,Da.D.int n,Da.D.int 0]) ?_ ?_);(focus(exact Da.row_cons (.int _) (Da.row_cons (.str _) (Da.row_cons (.int _) (Da.row_cons (.int _) (Da.row_nil _ _))))));intro b W1 HF1;replace HF:=hid HF1;clear HF1)
  | (go_at_call 118;(refine(text_yes (4,t,n,0) HN.out HF.out).mono ?_);rintro e W3 ⟨⟨s,rfl⟩,HF1⟩;replace HF:=hid HF1;clear HF1))
 refine bodyPost_ret (v:=.bool true) (by simp [results,Tryz.results158,go_sem];try rfl) rfl ⟨rfl,HF.out.lessR.lessR⟩
theorem plain_txt(I:List Fr.RI→Prop)(n p:Int)(t:List UInt8)(xs:List Tr.Ex)(h:Tk.Good 5 t n):PrD rowV Gx I 158 #[] (exD (.mk 3 n t [] xs p)):=by
 intro w W g R Ds vs _ hF hr
 unfold exD at hr
 obtain⟨c0,_,rfl,h0,hr⟩:=row_inv hr
 obtain⟨c1,_,rfl,h1,hr⟩:=row_inv hr
 obtain⟨c2,_,rfl,h2,hr⟩:=row_inv hr
 obtain⟨c3,_,rfl,h3,hr⟩:=row_inv hr
 obtain⟨c4,_,rfl,h4,hr⟩:=row_inv hr
 obtain⟨c5,_,rfl,h5,hr⟩:=row_inv hr
 obtain rfl:=row_inv0 hr
 obtain rfl:=is_int h0
 obtain rfl:=is_int h1
 obtain rfl:=is_str h2
 obtain rfl:=is_str h3
 obtain rfl:=is_int h5
 clear h0 h1 h2 h3 h5 hr
 have HF:=hid hF
 have HN:=hid h
 clear h
 clear hF h4
 go_enter Tryz.func158,Tryz.ntmps158
 go_wp2_with (first
  | ((with_reducible refine is_box ?_);refine wl_box HF.out rfl rfl ?_;intro bx W1 HF1;replace HF:=hid HF1;clear HF1;have⟨e0,e1,e2⟩:=HF.out.c3)
  | ((with_reducible refine Fr.is_alloc ?_);refine Fr.wl_alloc HF.out tyTok ?_;intro b1 W1 HF1;replace HF:=hid HF1;clear HF1;have e0:=HF.out.cellAt 1 rfl 0 rfl;have e1:=HF.out.cellAt 1 rfl 1 rfl;have e2:=HF.out.cellAt 1 rfl 2 rfl)
  | ((with_reducible refine is_store (T:=40) ?_);(refine wl_store 0 HF.out tyTok rfl rfl rfl rfl rfl (z4 rfl) (by simp [Value.oneCell']) ?_);intro W1 HF1;simp only [setL,z0,z1]at HF1;replace HF:=hid HF1;clear HF1;have e0:=HF.out.cellAt 1 rfl 0 rfl;have e1:=HF.out.cellAt 1 rfl 1 rfl;have e2:=HF.out.cellAt 1 rfl 2 rfl)
  | ((with_reducible refine is_store (T:=3) ?_);(refine wl_store 0 HF.out Fr.tyInt rfl rfl rfl rfl rfl (z4 rfl) (by simp [Value.oneCell']) ?_);intro W1 HF1;simp only [setL,z0,z1]at HF1;replace HF:=hid HF1;clear HF1;have e0:=HF.out.cellAt 1 rfl 0 rfl;have e1:=HF.out.cellAt 1 rfl 1 rfl;have e2:=HF.out.cellAt 1 rfl 2 rfl)
  | ((with_reducible refine Fr.is_load (T:=40) ?_);(refine Fr.wl_load 0 HF.out rfl rfl Tryz.underlying40 rfl tyTok rfl ?_))
  | ((with_reducible refine Fr.is_lit ?_);(refine Fr.wl_lit1 HF.out Tryz.underlying35 tyTok (by simp) (by simp) rfl rfl rfl ([Da.D.int 5,Da.D.str t,Da.D.int n,Da.D.int 0]) ?_ ?_);(focus(exact Da.row_cons (.int _) (Da.row_cons (.str _) (Da.row_cons (.int _) (Da.row_cons (.int _) (Da.row_nil _ _))))));intro b W1 HF1;replace HF:=hid HF1;clear HF1)
  | (go_at_call 118;(refine(text_yes (5,t,n,0) HN.out HF.out).mono ?_);rintro e W3 ⟨⟨s,rfl⟩,HF1⟩;replace HF:=hid HF1;clear HF1))
 refine bodyPost_ret (v:=.bool true) (by simp [results,Tryz.results158,go_sem];try rfl) rfl ⟨rfl,HF.out.lessR.lessR⟩
theorem plain_bool(I:List Fr.RI→Prop)(n p:Int)(t:List UInt8)(xs:List Tr.Ex)(h:n=0∨n=1)(ht:t=[]):PrD rowV Gx I 158 #[] (exD (.mk 5 n t [] xs p)):=by
 intro w W g R Ds vs _ hF hr
 unfold exD at hr
 obtain⟨c0,_,rfl,h0,hr⟩:=row_inv hr
 obtain⟨c1,_,rfl,h1,hr⟩:=row_inv hr
 obtain⟨c2,_,rfl,h2,hr⟩:=row_inv hr
 obtain⟨c3,_,rfl,h3,hr⟩:=row_inv hr
 obtain⟨c4,_,rfl,h4,hr⟩:=row_inv hr
 obtain⟨c5,_,rfl,h5,hr⟩:=row_inv hr
 obtain rfl:=row_inv0 hr
 obtain rfl:=is_int h0
 obtain rfl:=is_int h1
 obtain rfl:=is_str h2
 obtain rfl:=is_str h3
 obtain rfl:=is_int h5
 clear h0 h1 h2 h3 h5 hr
 have HF:=hid hF
 clear hF h4
 subst ht
 rcases h with rfl|rfl
 all_goals
  go_enter Tryz.func158,Tryz.ntmps158
  go_wp2_with (first
   | ((with_reducible refine is_box ?_);refine wl_box HF.out rfl rfl ?_;intro bx W1 HF1;replace HF:=hid HF1;clear HF1;have⟨e0,e1,e2⟩:=HF.out.c3))
  refine bodyPost_ret (v:=.bool true) (by simp [results,Tryz.results158,go_sem];try rfl) rfl ⟨rfl,HF.out.lessR⟩
namespace Fr
open Da Tr
section
variable {P:Program} {w W X:World} {g:Option Nat} {Kp:World→Prop} {R:List RI} {Ds:List (Value × D)} {o:Oper} {a:Act} {K:Act→World→Prop} {Q:Exit→Act→World→Prop}
theorem exec_blk{k:Nat}(h:Fm w g Kp X R Ds){T:TypeId}{x:Operand}(ho:o.op=.load T x){b:Nat}{cs:List Value}(hx:a.eval x=.pointer (some ⟨b,0,none⟩))(hk:R[k]?=some (.blk b cs)){d:TypeDesc}(hu:P.underlying T=some d)(hrow:d.isRow=true){z:List Value}{bytes:Nat}(hT:TyIs P T z bytes)(hz:cs.length=z.length) :
  (execOp a.eval o).run P X=.ok (.value (.agg cs.toArray)) X:=by
 obtain⟨ti,tv,hti,_,_,hts,_⟩:=hT.info
 have hc2:X.rangeAt b 0 cs:=fun j v hv=>by
  rw [(h.at k hk).cell]
  simpa using hv
 unfold execOp
 simp only [ho,hx,Instr.loadAt,Instr.sureAddr,Sem.run_bind,Sem.run_pure,Result.andThen_ok,run_loadVar_mid X b 0 T cs d hc2 hu hrow (by rw [hti];simp [hts,hz])]
theorem ow_strs(h:Fm w g Kp W R Ds){T e:TypeId}{bytes:Nat}(n:Nat){ps:Array (Nat × Operand)}(ho:o.op=.buildSlice T n ps)(ss:List (List UInt8))(h0:0<n)(h1:n≤100)(hu:P.underlying T=some (.slice e))(hT:TyIs P e [.string ⟨#[]⟩] bytes)
  {parts:List (Nat × Value)} (hp:(ps.toList.map fun p=>(p.1,a.eval p.2))=parts) (hf:Instr.fill (fun i=>some (i * 1,1)) ((Array.range (n * 1)).map (#[Value.string ⟨#[]⟩][· % 1]!)) parts=some (ss.map fun s=>Value.string ⟨s.toArray⟩).toArray)
  (hK:∀(b:Nat) (W':World),Fm w g Kp W' (.blk b (ss.map fun s=>Value.string ⟨s.toArray⟩)::R) Ds→K (a.put o.dst (.slice (some ⟨b,0,none⟩) n n)) W'):o.wp P a W K Q:=by
 obtain⟨i,v,hi,hv,hc,hs,_⟩:=hT.info
 have hrun:=run_buildSlice (P:=P) W T e n (ps.map fun p=>(p.1,a.eval p.2)) (ss.map fun s=>Value.string ⟨s.toArray⟩).toArray i v hu hi hv (by rw [hs];simp;omega) (by rw [hs];simp;omega) (by rw [hs,hc,Array.toList_map,hp];exact hf)
 unfold Oper.wp execOp
 simp only [ho,Sem.run_bind,hrun,Result.andThen_ok,Sem.run_pure]
 exact hK _ _ (h.alloc _ _)
theorem Fm.strAt{b:Nat}{ss:List (List UInt8)}(h:Fm w g Kp W (.blk b (ss.map fun s=>Value.string ⟨s.toArray⟩)::R) Ds):RowKit.Hid (∀ k (hk:k<ss.length),W.cell? ⟨b,0+k,none⟩=some (.string ⟨ss[k].toArray⟩)):=
 hid fun k hk=>h.cellAt 0 rfl (0+k) (by simp [hk])
end
end Fr
theorem contains_yes(ws:List (List UInt8))(v:List UInt8)(b n:Nat){w W:World}{g:Option Nat}{Kp:World→Prop}{R:List Fr.RI}{Ds:List (Value × Da.D)}(hF:Fr.Fm w g Kp W (.blk b (ws.map fun s=>Value.string ⟨s.toArray⟩)::R) Ds)(hn:ws.length=n)(hm:(n:Int)≤1000)(hv:ws.contains v=true) :
  Calls Tryz.prog 159 #[.slice (some ⟨b,0,none⟩) n n,.string ⟨v.toArray⟩] W fun e W'=>e=.returned (.bool true)∧W'=W:=by
 refine(contains_any ws v b 0 n n W hn hm (Int.le_refl _) hF.strAt).mono fun e W' h=>?_
 rw [hv]at h
 exact h
end Go.Proofs.YtlhmkfcbldghfaaGreatDoor
