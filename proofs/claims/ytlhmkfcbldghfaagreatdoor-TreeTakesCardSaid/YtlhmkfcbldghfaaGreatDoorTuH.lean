/- The walk of tree's parser's loop. Conditions: the parser's block is as it is made;shorter texts are read as they should be. -/
import Derived.Test.YtlhmkfcbldghfaaGreatDoorTuFG
namespace Go.Proofs.YtlhmkfcbldghfaaGreatDoor
set_option linter.all false
open Go.Lib (hid)
set_option maxRecDepth 1000000
set_option maxHeartbeats 16000000
open Go.RowKit
open Fr (con_add dzE is_store ow_store1 ow_storeRow setL tkM tyE tySE wE wT)
open Tr (con_expr exD rd_trans)
namespace Fr
open Da Tr
def for3(en:Int)(r:Rc)(p:Int)(tn:List UInt8)(es:List Ex)(l:List Tok):Tr.R (Option St):=(skip en [68,79] l).bind fun _ l7=>(r.st l7).bind fun s l8=>(skip en [69,78,68] l8).bind fun _ l9 => .ok (some (.mk 7 tn es [] [s] p)) l9
def for2(en:Int)(r:Rc)(p:Int)(tn:List UInt8)(a c:Ex)(l:List Tok):Tr.R (Option St):=(if isS [66,89] l then(exprP en r l.tail).bind fun d l6 => .ok [d] l6 else .ok [] l).bind fun ds l6=>for3 en r p tn (a::c::ds) l6
def forP(en:Int)(r:Rc)(p:Int)(l:List Tok):Tr.R (Option St):=(nameT en l).bind fun t l1=>(skip en [58,61] l1).bind fun _ l2=>(exprP en r l2).bind fun a l3=>(skip en [84,79] l3).bind fun _ l4=>(exprP en r l4).bind fun c l5=>for2 en r p t.2.1 a c l5
end Fr
theorem for_any(en:Int)(n:Nat)(r:Tr.Rc)(hC:Fr.CR en n r)(hE:Fr.CV 147 en n (Tr.exprP en r) Tr.VEx)(w0 w:World)(B bp sb:Nat)(p:Int)(l:List Tr.Tok)(hB:B≤w0.heap.size)(hl:l.length≤n)
  (hf:Fr.PF w0 B bp en l w [.blk sb [.int .i64 0,.string ⟨#[]⟩,.slice none 0 0,.slice none 0 0,.slice none 0 0,.int .i64 p]] []) :
  Calls Tryz.prog 192 #[.pointer (some ⟨bp,0,none⟩),.pointer (some ⟨sb,0,none⟩)] w fun e w' =>
   (∃ st l' k nm v2 v3 v4 d2 d3 d4 p',Fr.forP en r p l=.ok (some st) l'∧e=.returned (.tuple #[])∧Fr.PF w0 B bp en l' w' [.blk sb [.int .i64 k,.string nm,v2,v3,v4,.int .i64 p']] [(v2,d2),(v3,d3),(v4,d4)]∧Tr.stD st=[.int k,.str nm.data.toList,d2,d3,d4,.int p']) ∨
   (∃ q,Fr.forP en r p l=.no q∧e=Tr.gone q∧Tr.Rd w0 bp w'):=by
 obtain⟨X,hX⟩:∃ X,X=Fr.forP en r p l:=⟨_,rfl⟩
 rw [show Fr.forP en r p l=X from hX.symm]
 unfold Fr.forP at hX
 have HX:=hid hX
 have HB:=hid hB
 have HF:=hid hf
 have HL:=hid (show l.length+0≤l.length from Nat.le_refl _)
 have HN:=hid hl
 have HC:=hid hC
 have HE:=hid hE
 have hfl1:=Fr.fld_tok1
 clear hX hl hB hf hC hE
 go_enter Tryz.func192,Tryz.ntmps192
 go_wp2_with (first
  | (first|((with_reducible refine is_store (T:=3) ?_);(first|((refine Fr.wl_store1 0 HF.out Fr.tyInt rfl rfl rfl rfl rfl ?_ ?_);(focus(rfl))));intro W1 HF1;simp only [setL,z0,z1]at HF1;replace HF:=hid HF1;clear HF1)|((with_reducible refine is_store (T:=9) ?_);(first|((refine Fr.wl_store1 0 HF.out Fr.tyStr rfl rfl rfl rfl rfl ?_ ?_);(focus(rfl))));intro W1 HF1;simp only [setL,z0,z1]at HF1;replace HF:=hid HF1;clear HF1))
  | (first|((with_reducible refine is_store (T:=47) ?_);(first|((refine Fr.wl_store1 1 HF.out tySE rfl rfl rfl rfl rfl ?_ ?_);(focus(rfl))));intro W1 HF1;simp only [setL,z0,z1]at HF1;replace HF:=hid HF1;clear HF1))
  | (go_at_call 99;(with_reducible refine(name_any _ B bp en _ HF.out.kp).mono ?_);rintro e W1 ⟨hr,⟨t,l1,v,hx,hps,rfl,hv⟩|⟨q,hx,rfl⟩⟩;(focus(obtain⟨kd,tn,n2,q2⟩:=t;obtain rfl:v=.agg #[.int .i64 kd,.string ⟨tn.toArray⟩,.int .i64 n2,.int .i64 q2]:=hv;(try simp only [hx,↓reduceIte,Fr.bB]at HX);replace HL:=hid (con_add (Tr.con_name en _) hx HL.out);replace HF:=hid (Fr.PF.call HB.out HF.out hr hps);clear hr hps hx));rotate_left;(focus((try simp only [hx,↓reduceIte,Fr.bB]at HX);have HR:=hid (rd_trans HF.out.gr hr);clear hr hx));rotate_left)
  | (go_at_call 98;(with_reducible refine(skip_any _ B bp en _ _ HF.out.kp).mono ?_);rintro e W1 ⟨hr,⟨_,l2,v,hx,hps,rfl,rfl⟩|⟨q,hx,rfl⟩⟩;(focus((try simp only [hx,↓reduceIte,Fr.bB]at HX);replace HL:=hid (con_add (Tr.con_skip en _ _) hx HL.out);replace HF:=hid (Fr.PF.call HB.out HF.out hr hps);clear hr hps hx));rotate_left;(focus((try simp only [hx,↓reduceIte,Fr.bB]at HX);have HR:=hid (rd_trans HF.out.gr hr);clear hr hx));rotate_left)
  | (go_at_call 147;(with_reducible refine(HE.out _ B bp _ (by have h1:=HL.out;have h2:=HN.out;(try have h3:=HM.out);omega) HF.out.kp).mono ?_);rintro e W1 ⟨hr,⟨ta,l1,v,hx,hps,rfl,hV⟩|⟨q,hx,rfl⟩⟩;(focus(obtain⟨k0,n0,tx0,op0,xs0,p0,va,rfl,hD,hdp,hd0⟩:=Fr.VEx.parts hV;(try simp only [hx,↓reduceIte,Fr.bB]at HX);replace HL:=hid (con_add (con_expr en HC.out.ce.rg _) hx HL.out);have HF2:=Fr.PF.call HB.out HF.out hr hps;replace HF2:=Fr.Fm.since HF.out HF2 hd0;replace HF:=hid HF2;clear HF2 hr hps hx hd0));rotate_left;(focus((try simp only [hx,↓reduceIte,Fr.bB]at HX);have HR:=hid (rd_trans HF.out.gr hr);clear hr hx));rotate_left)
  | ((with_reducible refine Fr.is_lit ?_);(refine Fr.wl_litR HF.out Tryz.underlying47 tyE (by simp) (by simp) rfl rfl rfl (exD ta) ?_ ?_);(focus(rw [hD];(repeat' (first|exact Da.row_nil _ _|exact Da.Is.int _|exact Da.Is.str _|exact HF.out.da 0 _ _ rfl|refine Da.row_cons ?_ ?_))));intro b W1 HF1;replace HF:=hid HF1;clear HF1))
 all_goals first|(exact⟨rfl,.inr ⟨_,HX.out,rfl,HR.out⟩⟩)|skip
 obtain⟨te,hte⟩:∃ te,te=ta:=⟨_,rfl⟩
 subst hte
 clear hD hdp hV
 obtain⟨pl,hpl⟩:∃ pl:Option Addr,pl=some ⟨b,0,none⟩:=⟨_,rfl⟩
 obtain⟨cl,hcl⟩:∃ cl:Nat,cl=1:=⟨_,rfl⟩
 replace HF:=hid (show Fr.PF w0 B bp en l2 _ [.blk sb [.int .i64 7,.string ⟨tn.toArray⟩,.slice pl 1 cl,.slice none 0 0,.slice none 0 0,.int .i64 p],.row (.slice pl 1 cl) 53 6 [exD te]] []from by rw [hpl,hcl];exact HF.out.pick [1,0] [] (by decide) (by simp) (by simp))
 clear hpl hcl
 have hlt1:((1:Nat):Int)<((1:Nat):Int)+1:=by omega
 go_cut []from 2 to 58 (fun wc=>∃(ta:Tr.Ex) (l1:List Tr.Tok) (ve:Value),RowKit.Hid (X=Fr.for2 en r p tn te ta l1)∧RowKit.Hid (l1.length+(0+1)≤l.length)∧RowKit.Hid (Fr.PF w0 B bp en l1 wc [.blk sb [.int .i64 7,.string ⟨tn.toArray⟩,ve,.slice none 0 0,.slice none 0 0,.int .i64 p],.row ve 53 6 ([exD te]++[exD ta])] []))
 case first =>
  replace HF:=hid HF.out.drew
  refine wp_region_G (UpTo 13 (fun X=>sb<X.heap.size∧X.cell? ⟨sb,2,none⟩=some (.slice pl (1) cl))) 14 (by kernel_rfl) (by kernel_rfl) (fun _=>⟨HF.out.ltAt 0 rfl,HF.out.cellAt 0 rfl 2 rfl⟩) (fun _ hS=>?_)
  generalize World.drew _=W1 at HF hS ⊢
  refine tkM (n:=14) (is:=[0,1,2]) (k:=3) rfl (by kernel_rfl) hS ?_
  repeat(refine wT (v:=?_) rfl (by rfl) (fun X xb=>?_) ?_;rotate_left 1;(focus(go_simp;try with_reducible rfl));try simp only [Act.put,zA,z0,z1])
  refine wE fun hS=>?_
  refine Fr.tkB (n:=14) (is:=[3]) [[3]] (k:=1) rfl (by kernel_rfl) hS ?_
  repeat(refine wT (v:=?_) rfl (by rfl) (fun X xb=>?_) ?_;rotate_left 1;(focus(go_simp;try with_reducible rfl));try simp only [Act.put,zA,z0,z1])
  refine wE fun hS=>?_
  refine tkM (n:=14) (is:=[4,6]) (k:=2) rfl (by kernel_rfl) hS ?_
  repeat(refine wT (v:=?_) rfl (by rfl) (fun X xb=>?_) ?_;rotate_left 1;(focus(go_simp;try with_reducible rfl));try simp only [Act.put,zA,z0,z1])
  refine wE fun hS=>?_
  refine wpAnyG_ready (rs:=[5,7]) (by kernel_rfl) (by simp) ?_
  refine AllReadyG.cons rfl (fun K hK=>?_) (AllReadyG.cons rfl (fun K hK=>?_) AllReadyG.nil)
  ·skip
   go_simp
   (go_at_call 147;(with_reducible refine(HE.out _ B bp _ (by have h1:=HL.out;have h2:=HN.out;(try have h3:=HM.out);omega) HF.out.kp).mono ?_);rintro e W1 ⟨hr,⟨ta,l1,v,hx,hps,rfl,hV⟩|⟨q,hx,rfl⟩⟩;(focus(obtain⟨k0,n0,tx0,op0,xs0,p0,va,rfl,hD,hdp,hd0⟩:=Fr.VEx.parts hV;(try simp only [hx,↓reduceIte,Fr.bB]at HX);replace HL:=hid (con_add (con_expr en HC.out.ce.rg _) hx HL.out);have HF2:=Fr.PF.call HB.out HF.out hr hps;replace HF2:=Fr.Fm.since HF.out HF2 hd0;replace HF:=hid HF2;clear HF2 hr hps hx hd0));rotate_left;(focus((try simp only [hx,↓reduceIte,Fr.bB]at HX);have HR:=hid (rd_trans HF.out.gr hr);clear hr hx));rotate_left)
   rotate_left
   ·go_simp
    exact⟨rfl,.inr ⟨_,HX.out,rfl,HR.out⟩⟩
   go_simp
   refine hK.out _ _ (fun _=>⟨HF.out.ltAt 0 rfl,HF.out.cellAt 0 rfl 2 rfl⟩) fun hS=>?_;clear hK K
   try simp only [Act.put,zA,z0,z1]
   refine rd1 (i:=7) (by kernel_rfl) (.cons rfl (fun K hK=>?_) .nil)
   refine(if_pos (by rfl)).mpr ?_
   refine Fr.ow_lit1 HF.out Tryz.underlying47 tyE (by simp) (by simp) rfl rfl rfl rfl (row:=dzE) Fr.row_zE ?_
   intro b1 W1 HF1
   replace HF:=hid HF1;clear HF1
   refine hK.out _ _ (fun _=>⟨HF.out.ltAt 0 rfl,HF.out.cellAt 0 rfl 2 rfl⟩) fun hS=>?_;clear hK K
   try simp only [Act.put,zA,z0,z1]
   refine rd1 (i:=8) (by kernel_rfl) (.cons rfl (fun K hK=>?_) .nil)
   refine(if_pos (by rfl)).mpr ?_
   refine Fr.ow_append 1 0 HF.out Tryz.underlying47 tyE (by simp) (by simp) rfl rfl rfl rfl rfl rfl ?_ ?_
   focus(simp)
   intro v1 W1 HF1
   simp only [setL,z0,z1]at HF1
   obtain⟨bl,cap,rfl,hcp,hcm⟩:∃ b cap:Nat,v1=.slice (some ⟨b,0,none⟩) (1+1) cap∧1+1≤cap∧cap≤maxLen:=by
    rcases HF1.rowForm (k:=1) rfl with⟨h,_⟩|h
    ·simp at h
    ·simpa []using h
   replace HF:=hid HF1
   clear HF1
   refine hK.out _ _ (fun _=>⟨HF.out.ltAt 0 rfl,HF.out.cellAt 0 rfl 2 rfl⟩) fun hS=>?_;clear hK K
   try simp only [Act.put,zA,z0,z1]
   refine tkM (n:=14) (is:=[9,11,12]) (k:=3) rfl (by kernel_rfl) hS ?_
   repeat(refine wT (v:=?_) rfl (by rfl) (fun X xb=>?_) ?_;rotate_left 1;(focus(go_simp;try with_reducible rfl));try simp only [Act.put,zA,z0,z1])
   refine wE fun hS=>?_
   refine wpAnyG_ready (rs:=[10,13]) (by kernel_rfl) (by simp) ?_
   refine AllReadyG.cons rfl (fun K hK=>?_) (AllReadyG.cons rfl (fun K hK=>?_) AllReadyG.nil)
   ·skip
    refine(if_pos (by rfl)).mpr ?_
    refine ow_storeRow 1 HF.out tyE rfl rfl rfl (1) 0 (by first|rfl|simp|omega) (row:=dzE) (by simp []) (by rw [hD];simp) rfl rfl rfl (nd:=exD ta) ?_ ?_
    focus(rw [hD];(repeat' (first|exact Da.row_nil _ _|exact Da.Is.int _|exact Da.Is.str _|exact HF.out.da 1 _ _ rfl|refine Da.row_cons ?_ ?_)))
    intro W1 HF1
    rw [Fr.set_zE hD]at HF1
    simp only [z0,z1]at HF1
    replace HF:=hid HF1;clear HF1
    refine hK.out _ _ (fun _=>⟨HF.out.ltAt 0 rfl,HF.out.cellAt 0 rfl 2 rfl⟩) fun hS=>?_;clear hK K
    try simp only [Act.put,zA,z0,z1]
    refine rd1 (i:=13) (by kernel_rfl) (.cons rfl (fun K hK=>?_) .nil)
    refine(if_pos (by rfl)).mpr ?_
    (first|((refine ow_store1 0 HF.out tySE rfl rfl rfl rfl rfl rfl ?_ ?_);(focus(rfl))))
    intro W1 HF1
    simp only [setL,z0,z1]at HF1;replace HF:=hid HF1;clear HF1
    refine hK.out _ _ (fun h=>absurd h (by simp [Fr.setAll])) fun hS=>?_;clear hK K
    try simp only [Act.put,zA,z0,z1]
    refine wpAnyG_done (by kernel_rfl) ?_ _
    clear hS
    go_wp2
    go_meet
    case rel=>exact⟨ta,l1,_,HX,hid (by have h1:=HL.out;omega),hid (by have h1:=HF.out;rw [show 1=([exD te]).length by simp [],Fr.last_set]at h1;exact h1.pick [0,1] [] (by decide) (by simp) (by simp))⟩
   ·skip
    refine(if_pos (by rfl)).mpr ?_
    (first|((refine ow_store1 0 HF.out tySE rfl rfl rfl rfl rfl rfl ?_ ?_);(focus(rfl))))
    intro W1 HF1
    simp only [setL,z0,z1]at HF1;replace HF:=hid HF1;clear HF1
    refine hK.out _ _ (fun h=>absurd h (by simp [Fr.setAll])) fun hS=>?_;clear hK K
    try simp only [Act.put,zA,z0,z1]
    refine rd1 (i:=10) (by kernel_rfl) (.cons rfl (fun K hK=>?_) .nil)
    refine(if_pos (by rfl)).mpr ?_
    refine ow_storeRow 1 HF.out tyE rfl rfl rfl (1) 0 (by first|rfl|simp|omega) (row:=dzE) (by simp []) (by rw [hD];simp) rfl rfl rfl (nd:=exD ta) ?_ ?_
    focus(rw [hD];(repeat' (first|exact Da.row_nil _ _|exact Da.Is.int _|exact Da.Is.str _|exact HF.out.da 1 _ _ rfl|refine Da.row_cons ?_ ?_)))
    intro W1 HF1
    rw [Fr.set_zE hD]at HF1
    simp only [z0,z1]at HF1
    replace HF:=hid HF1;clear HF1
    refine hK.out _ _ (fun h=>absurd h (by simp [Fr.setAll])) fun hS=>?_;clear hK K
    try simp only [Act.put,zA,z0,z1]
    refine wpAnyG_done (by kernel_rfl) ?_ _
    clear hS
    go_wp2
    go_meet
    case rel=>exact⟨ta,l1,_,HX,hid (by have h1:=HL.out;omega),hid (by have h1:=HF.out;rw [show 1=([exD te]).length by simp [],Fr.last_set]at h1;exact h1.pick [0,1] [] (by decide) (by simp) (by simp))⟩
  ·skip
   refine(if_pos (by rfl)).mpr ?_
   refine Fr.ow_lit1 HF.out Tryz.underlying47 tyE (by simp) (by simp) rfl rfl rfl rfl (row:=dzE) Fr.row_zE ?_
   intro b1 W1 HF1
   replace HF:=hid HF1;clear HF1
   refine hK.out _ _ (fun _=>⟨HF.out.ltAt 0 rfl,HF.out.cellAt 0 rfl 2 rfl⟩) fun hS=>?_;clear hK K
   try simp only [Act.put,zA,z0,z1]
   refine rd1 (i:=5) (by kernel_rfl) (.cons rfl (fun K hK=>?_) .nil)
   go_simp
   (go_at_call 147;(with_reducible refine(HE.out _ B bp _ (by have h1:=HL.out;have h2:=HN.out;(try have h3:=HM.out);omega) HF.out.kp).mono ?_);rintro e W1 ⟨hr,⟨ta,l1,v,hx,hps,rfl,hV⟩|⟨q,hx,rfl⟩⟩;(focus(obtain⟨k0,n0,tx0,op0,xs0,p0,va,rfl,hD,hdp,hd0⟩:=Fr.VEx.parts hV;(try simp only [hx,↓reduceIte,Fr.bB]at HX);replace HL:=hid (con_add (con_expr en HC.out.ce.rg _) hx HL.out);have HF2:=Fr.PF.call HB.out HF.out hr hps;replace HF2:=Fr.Fm.since HF.out HF2 hd0;replace HF:=hid HF2;clear HF2 hr hps hx hd0));rotate_left;(focus((try simp only [hx,↓reduceIte,Fr.bB]at HX);have HR:=hid (rd_trans HF.out.gr hr);clear hr hx));rotate_left)
   rotate_left
   ·go_simp
    exact⟨rfl,.inr ⟨_,HX.out,rfl,HR.out⟩⟩
   go_simp
   refine hK.out _ _ (fun _=>⟨HF.out.ltAt 0 rfl,HF.out.cellAt 0 rfl 2 rfl⟩) fun hS=>?_;clear hK K
   try simp only [Act.put,zA,z0,z1]
   refine rd1 (i:=8) (by kernel_rfl) (.cons rfl (fun K hK=>?_) .nil)
   refine(if_pos (by rfl)).mpr ?_
   refine Fr.ow_append 1 1 HF.out Tryz.underlying47 tyE (by simp) (by simp) rfl rfl rfl rfl rfl rfl ?_ ?_
   focus(simp)
   intro v1 W1 HF1
   simp only [setL,z0,z1]at HF1
   obtain⟨bl,cap,rfl,hcp,hcm⟩:∃ b cap:Nat,v1=.slice (some ⟨b,0,none⟩) (1+1) cap∧1+1≤cap∧cap≤maxLen:=by
    rcases HF1.rowForm (k:=1) rfl with⟨h,_⟩|h
    ·simp at h
    ·simpa []using h
   replace HF:=hid HF1
   clear HF1
   refine hK.out _ _ (fun _=>⟨HF.out.ltAt 0 rfl,HF.out.cellAt 0 rfl 2 rfl⟩) fun hS=>?_;clear hK K
   try simp only [Act.put,zA,z0,z1]
   refine tkM (n:=14) (is:=[9,11,12]) (k:=3) rfl (by kernel_rfl) hS ?_
   repeat(refine wT (v:=?_) rfl (by rfl) (fun X xb=>?_) ?_;rotate_left 1;(focus(go_simp;try with_reducible rfl));try simp only [Act.put,zA,z0,z1])
   refine wE fun hS=>?_
   refine wpAnyG_ready (rs:=[10,13]) (by kernel_rfl) (by simp) ?_
   refine AllReadyG.cons rfl (fun K hK=>?_) (AllReadyG.cons rfl (fun K hK=>?_) AllReadyG.nil)
   ·skip
    refine(if_pos (by rfl)).mpr ?_
    refine ow_storeRow 1 HF.out tyE rfl rfl rfl (1) 0 (by first|rfl|simp|omega) (row:=dzE) (by simp []) (by rw [hD];simp) rfl rfl rfl (nd:=exD ta) ?_ ?_
    focus(rw [hD];(repeat' (first|exact Da.row_nil _ _|exact Da.Is.int _|exact Da.Is.str _|exact HF.out.da 0 _ _ rfl|refine Da.row_cons ?_ ?_)))
    intro W1 HF1
    rw [Fr.set_zE hD]at HF1
    simp only [z0,z1]at HF1
    replace HF:=hid HF1;clear HF1
    refine hK.out _ _ (fun _=>⟨HF.out.ltAt 0 rfl,HF.out.cellAt 0 rfl 2 rfl⟩) fun hS=>?_;clear hK K
    try simp only [Act.put,zA,z0,z1]
    refine rd1 (i:=13) (by kernel_rfl) (.cons rfl (fun K hK=>?_) .nil)
    refine(if_pos (by rfl)).mpr ?_
    (first|((refine ow_store1 0 HF.out tySE rfl rfl rfl rfl rfl rfl ?_ ?_);(focus(rfl))))
    intro W1 HF1
    simp only [setL,z0,z1]at HF1;replace HF:=hid HF1;clear HF1
    refine hK.out _ _ (fun h=>absurd h (by simp [Fr.setAll])) fun hS=>?_;clear hK K
    try simp only [Act.put,zA,z0,z1]
    refine wpAnyG_done (by kernel_rfl) ?_ _
    clear hS
    go_wp2
    go_meet
    case rel=>exact⟨ta,l1,_,HX,hid (by have h1:=HL.out;omega),hid (by have h1:=HF.out;rw [show 1=([exD te]).length by simp [],Fr.last_set]at h1;exact h1.pick [0,1] [] (by decide) (by simp) (by simp))⟩
   ·skip
    refine(if_pos (by rfl)).mpr ?_
    (first|((refine ow_store1 0 HF.out tySE rfl rfl rfl rfl rfl rfl ?_ ?_);(focus(rfl))))
    intro W1 HF1
    simp only [setL,z0,z1]at HF1;replace HF:=hid HF1;clear HF1
    refine hK.out _ _ (fun h=>absurd h (by simp [Fr.setAll])) fun hS=>?_;clear hK K
    try simp only [Act.put,zA,z0,z1]
    refine rd1 (i:=10) (by kernel_rfl) (.cons rfl (fun K hK=>?_) .nil)
    refine(if_pos (by rfl)).mpr ?_
    refine ow_storeRow 1 HF.out tyE rfl rfl rfl (1) 0 (by first|rfl|simp|omega) (row:=dzE) (by simp []) (by rw [hD];simp) rfl rfl rfl (nd:=exD ta) ?_ ?_
    focus(rw [hD];(repeat' (first|exact Da.row_nil _ _|exact Da.Is.int _|exact Da.Is.str _|exact HF.out.da 0 _ _ rfl|refine Da.row_cons ?_ ?_)))
    intro W1 HF1
    rw [Fr.set_zE hD]at HF1
    simp only [z0,z1]at HF1
    replace HF:=hid HF1;clear HF1
    refine hK.out _ _ (fun h=>absurd h (by simp [Fr.setAll])) fun hS=>?_;clear hK K
    try simp only [Act.put,zA,z0,z1]
    refine wpAnyG_done (by kernel_rfl) ?_ _
    clear hS
    go_wp2
    go_meet
    case rel=>exact⟨ta,l1,_,HX,hid (by have h1:=HL.out;omega),hid (by have h1:=HF.out;rw [show 1=([exD te]).length by simp [],Fr.last_set]at h1;exact h1.pick [0,1] [] (by decide) (by simp) (by simp))⟩
 case rest =>
  clear HF HX HL
  obtain⟨tc,l2,ve,HX,HL,HF⟩:=hcut
  have HX1:=HX.out
  unfold Fr.for2 at HX1
  replace HX:=hid HX1
  clear HX1
  go_wp2_with (first
   | (go_at_call 100;(with_reducible refine(Fr.took_split _ B bp en _ _ HF.out.kp).mono ?_);rintro e W1 ⟨hr,⟨hs,rfl,hps⟩|⟨hs,rfl,hps⟩⟩;(focus((try simp only [hs,↓reduceIte,Fr.bB]at HX);replace HF:=hid (Fr.PF.call HB.out HF.out hr hps);replace HL:=hid (Fr.tail_add hs HL.out);clear hr hps hs));rotate_left;(focus((try simp only [hs,↓reduceIte,Fr.bB]at HX);replace HF:=hid (Fr.PF.call HB.out HF.out hr hps);clear hr hps hs));rotate_left))
  ·skip
   obtain⟨pl,cl,rfl⟩:=HF.out.rowSlice (k:=1) rfl
   simp only [List.length_append,List.length_cons,List.length_nil,Nat.zero_add,Nat.reduceAdd]at HF ⊢
   have hlt1:((2:Nat):Int)<((2:Nat):Int)+1:=by omega
   go_cut []from 2 to 58 (fun wc=>∃(ta:Tr.Ex) (l1:List Tr.Tok) (ve:Value),RowKit.Hid (X=Fr.for3 en r p tn [te,tc,ta] l1)∧RowKit.Hid (l1.length+(0+1)≤l.length)∧RowKit.Hid (Fr.PF w0 B bp en l1 wc [.blk sb [.int .i64 7,.string ⟨tn.toArray⟩,ve,.slice none 0 0,.slice none 0 0,.int .i64 p],.row ve 53 6 (([exD te]++[exD tc])++[exD ta])] []))
   case first =>
    replace HF:=hid HF.out.drew
    refine wp_region_G (UpTo 13 (fun X=>sb<X.heap.size∧X.cell? ⟨sb,2,none⟩=some (.slice pl (2) cl))) 14 (by kernel_rfl) (by kernel_rfl) (fun _=>⟨HF.out.ltAt 0 rfl,HF.out.cellAt 0 rfl 2 rfl⟩) (fun _ hS=>?_)
    generalize World.drew _=W1 at HF hS ⊢
    refine tkM (n:=14) (is:=[0,1,2]) (k:=3) rfl (by kernel_rfl) hS ?_
    repeat(refine wT (v:=?_) rfl (by rfl) (fun X xb=>?_) ?_;rotate_left 1;(focus(go_simp;try with_reducible rfl));try simp only [Act.put,zA,z0,z1])
    refine wE fun hS=>?_
    refine Fr.tkB (n:=14) (is:=[3]) [[3]] (k:=1) rfl (by kernel_rfl) hS ?_
    repeat(refine wT (v:=?_) rfl (by rfl) (fun X xb=>?_) ?_;rotate_left 1;(focus(go_simp;try with_reducible rfl));try simp only [Act.put,zA,z0,z1])
    refine wE fun hS=>?_
    refine tkM (n:=14) (is:=[4,6]) (k:=2) rfl (by kernel_rfl) hS ?_
    repeat(refine wT (v:=?_) rfl (by rfl) (fun X xb=>?_) ?_;rotate_left 1;(focus(go_simp;try with_reducible rfl));try simp only [Act.put,zA,z0,z1])
    refine wE fun hS=>?_
    refine wpAnyG_ready (rs:=[5,7]) (by kernel_rfl) (by simp) ?_
    refine AllReadyG.cons rfl (fun K hK=>?_) (AllReadyG.cons rfl (fun K hK=>?_) AllReadyG.nil)
    ·skip
     go_simp
     (go_at_call 147;(with_reducible refine(HE.out _ B bp _ (by have h1:=HL.out;have h2:=HN.out;(try have h3:=HM.out);omega) HF.out.kp).mono ?_);rintro e W1 ⟨hr,⟨ta,l1,v,hx,hps,rfl,hV⟩|⟨q,hx,rfl⟩⟩;(focus(obtain⟨k0,n0,tx0,op0,xs0,p0,va,rfl,hD,hdp,hd0⟩:=Fr.VEx.parts hV;(try simp only [hx,↓reduceIte,Fr.bB]at HX);replace HL:=hid (con_add (con_expr en HC.out.ce.rg _) hx HL.out);have HF2:=Fr.PF.call HB.out HF.out hr hps;replace HF2:=Fr.Fm.since HF.out HF2 hd0;replace HF:=hid HF2;clear HF2 hr hps hx hd0));rotate_left;(focus((try simp only [hx,↓reduceIte,Fr.bB]at HX);have HR:=hid (rd_trans HF.out.gr hr);clear hr hx));rotate_left)
     rotate_left
     ·go_simp
      exact⟨rfl,.inr ⟨_,HX.out,rfl,HR.out⟩⟩
     go_simp
     refine hK.out _ _ (fun _=>⟨HF.out.ltAt 0 rfl,HF.out.cellAt 0 rfl 2 rfl⟩) fun hS=>?_;clear hK K
     try simp only [Act.put,zA,z0,z1]
     refine rd1 (i:=7) (by kernel_rfl) (.cons rfl (fun K hK=>?_) .nil)
     refine(if_pos (by rfl)).mpr ?_
     refine Fr.ow_lit1 HF.out Tryz.underlying47 tyE (by simp) (by simp) rfl rfl rfl rfl (row:=dzE) Fr.row_zE ?_
     intro b1 W1 HF1
     replace HF:=hid HF1;clear HF1
     refine hK.out _ _ (fun _=>⟨HF.out.ltAt 0 rfl,HF.out.cellAt 0 rfl 2 rfl⟩) fun hS=>?_;clear hK K
     try simp only [Act.put,zA,z0,z1]
     refine rd1 (i:=8) (by kernel_rfl) (.cons rfl (fun K hK=>?_) .nil)
     refine(if_pos (by rfl)).mpr ?_
     refine Fr.ow_append 1 0 HF.out Tryz.underlying47 tyE (by simp) (by simp) rfl rfl rfl rfl rfl rfl ?_ ?_
     focus(simp)
     intro v1 W1 HF1
     simp only [setL,z0,z1]at HF1
     obtain⟨bl,cap,rfl,hcp,hcm⟩:∃ b cap:Nat,v1=.slice (some ⟨b,0,none⟩) (2+1) cap∧2+1≤cap∧cap≤maxLen:=by
      rcases HF1.rowForm (k:=1) rfl with⟨h,_⟩|h
      ·simp at h
      ·simpa []using h
     replace HF:=hid HF1
     clear HF1
     refine hK.out _ _ (fun _=>⟨HF.out.ltAt 0 rfl,HF.out.cellAt 0 rfl 2 rfl⟩) fun hS=>?_;clear hK K
     try simp only [Act.put,zA,z0,z1]
     refine tkM (n:=14) (is:=[9,11,12]) (k:=3) rfl (by kernel_rfl) hS ?_
     repeat(refine wT (v:=?_) rfl (by rfl) (fun X xb=>?_) ?_;rotate_left 1;(focus(go_simp;try with_reducible rfl));try simp only [Act.put,zA,z0,z1])
     refine wE fun hS=>?_
     refine wpAnyG_ready (rs:=[10,13]) (by kernel_rfl) (by simp) ?_
     refine AllReadyG.cons rfl (fun K hK=>?_) (AllReadyG.cons rfl (fun K hK=>?_) AllReadyG.nil)
     ·skip
      refine(if_pos (by rfl)).mpr ?_
      refine ow_storeRow 1 HF.out tyE rfl rfl rfl (2) 0 (by first|rfl|simp|omega) (row:=dzE) (by simp []) (by rw [hD];simp) rfl rfl rfl (nd:=exD ta) ?_ ?_
      focus(rw [hD];(repeat' (first|exact Da.row_nil _ _|exact Da.Is.int _|exact Da.Is.str _|exact HF.out.da 1 _ _ rfl|refine Da.row_cons ?_ ?_)))
      intro W1 HF1
      rw [Fr.set_zE hD]at HF1
      simp only [z0,z1]at HF1
      replace HF:=hid HF1;clear HF1
      refine hK.out _ _ (fun _=>⟨HF.out.ltAt 0 rfl,HF.out.cellAt 0 rfl 2 rfl⟩) fun hS=>?_;clear hK K
      try simp only [Act.put,zA,z0,z1]
      refine rd1 (i:=13) (by kernel_rfl) (.cons rfl (fun K hK=>?_) .nil)
      refine(if_pos (by rfl)).mpr ?_
      (first|((refine ow_store1 0 HF.out tySE rfl rfl rfl rfl rfl rfl ?_ ?_);(focus(rfl))))
      intro W1 HF1
      simp only [setL,z0,z1]at HF1;replace HF:=hid HF1;clear HF1
      refine hK.out _ _ (fun h=>absurd h (by simp [Fr.setAll])) fun hS=>?_;clear hK K
      try simp only [Act.put,zA,z0,z1]
      refine wpAnyG_done (by kernel_rfl) ?_ _
      clear hS
      go_wp2
      go_meet
      case rel=>exact⟨ta,l1,_,HX,hid (by have h1:=HL.out;omega),hid (by have h1:=HF.out;rw [show 2=(([exD te]++[exD tc])).length by simp [],Fr.last_set]at h1;exact h1.pick [0,1] [] (by decide) (by simp) (by simp))⟩
     ·skip
      refine(if_pos (by rfl)).mpr ?_
      (first|((refine ow_store1 0 HF.out tySE rfl rfl rfl rfl rfl rfl ?_ ?_);(focus(rfl))))
      intro W1 HF1
      simp only [setL,z0,z1]at HF1;replace HF:=hid HF1;clear HF1
      refine hK.out _ _ (fun h=>absurd h (by simp [Fr.setAll])) fun hS=>?_;clear hK K
      try simp only [Act.put,zA,z0,z1]
      refine rd1 (i:=10) (by kernel_rfl) (.cons rfl (fun K hK=>?_) .nil)
      refine(if_pos (by rfl)).mpr ?_
      refine ow_storeRow 1 HF.out tyE rfl rfl rfl (2) 0 (by first|rfl|simp|omega) (row:=dzE) (by simp []) (by rw [hD];simp) rfl rfl rfl (nd:=exD ta) ?_ ?_
      focus(rw [hD];(repeat' (first|exact Da.row_nil _ _|exact Da.Is.int _|exact Da.Is.str _|exact HF.out.da 1 _ _ rfl|refine Da.row_cons ?_ ?_)))
      intro W1 HF1
      rw [Fr.set_zE hD]at HF1
      simp only [z0,z1]at HF1
      replace HF:=hid HF1;clear HF1
      refine hK.out _ _ (fun h=>absurd h (by simp [Fr.setAll])) fun hS=>?_;clear hK K
      try simp only [Act.put,zA,z0,z1]
      refine wpAnyG_done (by kernel_rfl) ?_ _
      clear hS
      go_wp2
      go_meet
      case rel=>exact⟨ta,l1,_,HX,hid (by have h1:=HL.out;omega),hid (by have h1:=HF.out;rw [show 2=(([exD te]++[exD tc])).length by simp [],Fr.last_set]at h1;exact h1.pick [0,1] [] (by decide) (by simp) (by simp))⟩
    ·skip
     refine(if_pos (by rfl)).mpr ?_
     refine Fr.ow_lit1 HF.out Tryz.underlying47 tyE (by simp) (by simp) rfl rfl rfl rfl (row:=dzE) Fr.row_zE ?_
     intro b1 W1 HF1
     replace HF:=hid HF1;clear HF1
     refine hK.out _ _ (fun _=>⟨HF.out.ltAt 0 rfl,HF.out.cellAt 0 rfl 2 rfl⟩) fun hS=>?_;clear hK K
     try simp only [Act.put,zA,z0,z1]
     refine rd1 (i:=5) (by kernel_rfl) (.cons rfl (fun K hK=>?_) .nil)
     go_simp
     (go_at_call 147;(with_reducible refine(HE.out _ B bp _ (by have h1:=HL.out;have h2:=HN.out;(try have h3:=HM.out);omega) HF.out.kp).mono ?_);rintro e W1 ⟨hr,⟨ta,l1,v,hx,hps,rfl,hV⟩|⟨q,hx,rfl⟩⟩;(focus(obtain⟨k0,n0,tx0,op0,xs0,p0,va,rfl,hD,hdp,hd0⟩:=Fr.VEx.parts hV;(try simp only [hx,↓reduceIte,Fr.bB]at HX);replace HL:=hid (con_add (con_expr en HC.out.ce.rg _) hx HL.out);have HF2:=Fr.PF.call HB.out HF.out hr hps;replace HF2:=Fr.Fm.since HF.out HF2 hd0;replace HF:=hid HF2;clear HF2 hr hps hx hd0));rotate_left;(focus((try simp only [hx,↓reduceIte,Fr.bB]at HX);have HR:=hid (rd_trans HF.out.gr hr);clear hr hx));rotate_left)
     rotate_left
     ·go_simp
      exact⟨rfl,.inr ⟨_,HX.out,rfl,HR.out⟩⟩
     go_simp
     refine hK.out _ _ (fun _=>⟨HF.out.ltAt 0 rfl,HF.out.cellAt 0 rfl 2 rfl⟩) fun hS=>?_;clear hK K
     try simp only [Act.put,zA,z0,z1]
     refine rd1 (i:=8) (by kernel_rfl) (.cons rfl (fun K hK=>?_) .nil)
     refine(if_pos (by rfl)).mpr ?_
     refine Fr.ow_append 1 1 HF.out Tryz.underlying47 tyE (by simp) (by simp) rfl rfl rfl rfl rfl rfl ?_ ?_
     focus(simp)
     intro v1 W1 HF1
     simp only [setL,z0,z1]at HF1
     obtain⟨bl,cap,rfl,hcp,hcm⟩:∃ b cap:Nat,v1=.slice (some ⟨b,0,none⟩) (2+1) cap∧2+1≤cap∧cap≤maxLen:=by
      rcases HF1.rowForm (k:=1) rfl with⟨h,_⟩|h
      ·simp at h
      ·simpa []using h
     replace HF:=hid HF1
     clear HF1
     refine hK.out _ _ (fun _=>⟨HF.out.ltAt 0 rfl,HF.out.cellAt 0 rfl 2 rfl⟩) fun hS=>?_;clear hK K
     try simp only [Act.put,zA,z0,z1]
     refine tkM (n:=14) (is:=[9,11,12]) (k:=3) rfl (by kernel_rfl) hS ?_
     repeat(refine wT (v:=?_) rfl (by rfl) (fun X xb=>?_) ?_;rotate_left 1;(focus(go_simp;try with_reducible rfl));try simp only [Act.put,zA,z0,z1])
     refine wE fun hS=>?_
     refine wpAnyG_ready (rs:=[10,13]) (by kernel_rfl) (by simp) ?_
     refine AllReadyG.cons rfl (fun K hK=>?_) (AllReadyG.cons rfl (fun K hK=>?_) AllReadyG.nil)
     ·skip
      refine(if_pos (by rfl)).mpr ?_
      refine ow_storeRow 1 HF.out tyE rfl rfl rfl (2) 0 (by first|rfl|simp|omega) (row:=dzE) (by simp []) (by rw [hD];simp) rfl rfl rfl (nd:=exD ta) ?_ ?_
      focus(rw [hD];(repeat' (first|exact Da.row_nil _ _|exact Da.Is.int _|exact Da.Is.str _|exact HF.out.da 0 _ _ rfl|refine Da.row_cons ?_ ?_)))
      intro W1 HF1
      rw [Fr.set_zE hD]at HF1
      simp only [z0,z1]at HF1
      replace HF:=hid HF1;clear HF1
      refine hK.out _ _ (fun _=>⟨HF.out.ltAt 0 rfl,HF.out.cellAt 0 rfl 2 rfl⟩) fun hS=>?_;clear hK K
      try simp only [Act.put,zA,z0,z1]
      refine rd1 (i:=13) (by kernel_rfl) (.cons rfl (fun K hK=>?_) .nil)
      refine(if_pos (by rfl)).mpr ?_
      (first|((refine ow_store1 0 HF.out tySE rfl rfl rfl rfl rfl rfl ?_ ?_);(focus(rfl))))
      intro W1 HF1
      simp only [setL,z0,z1]at HF1;replace HF:=hid HF1;clear HF1
      refine hK.out _ _ (fun h=>absurd h (by simp [Fr.setAll])) fun hS=>?_;clear hK K
      try simp only [Act.put,zA,z0,z1]
      refine wpAnyG_done (by kernel_rfl) ?_ _
      clear hS
      go_wp2
      go_meet
      case rel=>exact⟨ta,l1,_,HX,hid (by have h1:=HL.out;omega),hid (by have h1:=HF.out;rw [show 2=(([exD te]++[exD tc])).length by simp [],Fr.last_set]at h1;exact h1.pick [0,1] [] (by decide) (by simp) (by simp))⟩
     ·skip
      refine(if_pos (by rfl)).mpr ?_
      (first|((refine ow_store1 0 HF.out tySE rfl rfl rfl rfl rfl rfl ?_ ?_);(focus(rfl))))
      intro W1 HF1
      simp only [setL,z0,z1]at HF1;replace HF:=hid HF1;clear HF1
      refine hK.out _ _ (fun h=>absurd h (by simp [Fr.setAll])) fun hS=>?_;clear hK K
      try simp only [Act.put,zA,z0,z1]
      refine rd1 (i:=10) (by kernel_rfl) (.cons rfl (fun K hK=>?_) .nil)
      refine(if_pos (by rfl)).mpr ?_
      refine ow_storeRow 1 HF.out tyE rfl rfl rfl (2) 0 (by first|rfl|simp|omega) (row:=dzE) (by simp []) (by rw [hD];simp) rfl rfl rfl (nd:=exD ta) ?_ ?_
      focus(rw [hD];(repeat' (first|exact Da.row_nil _ _|exact Da.Is.int _|exact Da.Is.str _|exact HF.out.da 0 _ _ rfl|refine Da.row_cons ?_ ?_)))
      intro W1 HF1
      rw [Fr.set_zE hD]at HF1
      simp only [z0,z1]at HF1
      replace HF:=hid HF1;clear HF1
      refine hK.out _ _ (fun h=>absurd h (by simp [Fr.setAll])) fun hS=>?_;clear hK K
      try simp only [Act.put,zA,z0,z1]
      refine wpAnyG_done (by kernel_rfl) ?_ _
      clear hS
      go_wp2
      go_meet
      case rel=>exact⟨ta,l1,_,HX,hid (by have h1:=HL.out;omega),hid (by have h1:=HF.out;rw [show 2=(([exD te]++[exD tc])).length by simp [],Fr.last_set]at h1;exact h1.pick [0,1] [] (by decide) (by simp) (by simp))⟩
   case rest =>
    clear HF HX HL
    obtain⟨td,l3,ve,HX,HL,HF⟩:=hcut
    have HX1:=HX.out
    unfold Fr.for3 at HX1
    replace HX:=hid HX1
    clear HX1
    go_wp2_with (first
     | (go_at_call 98;(with_reducible refine(skip_any _ B bp en _ _ HF.out.kp).mono ?_);rintro e W1 ⟨hr,⟨_,l1,v,hx,hps,rfl,rfl⟩|⟨q,hx,rfl⟩⟩;(focus((try simp only [hx,↓reduceIte,Fr.bB]at HX);replace HL:=hid (con_add (Tr.con_skip en _ _) hx HL.out);replace HF:=hid (Fr.PF.call HB.out HF.out hr hps);clear hr hps hx));rotate_left;(focus((try simp only [hx,↓reduceIte,Fr.bB]at HX);have HR:=hid (rd_trans HF.out.gr hr);clear hr hx));rotate_left)
     | (go_at_call 104;(with_reducible refine(HC.out.st _ B bp _ (by have h1:=HL.out;have h2:=HN.out;(try have h3:=HM.out);omega) HF.out.kp).mono ?_);rintro e W1 ⟨hr,⟨ss,l1,v,hx,hps,rfl,hV⟩|⟨q,hx,rfl⟩⟩;(focus(have hd0:=hV;(try simp only [hx,↓reduceIte,Fr.bB]at HX);replace HL:=hid (Fr.suf_add (HC.out.ce.rg.st _) hx HL.out);have HF2:=Fr.PF.call HB.out HF.out hr hps;replace HF2:=Fr.Fm.since HF.out HF2 hd0;replace HF:=hid HF2;clear HF2 hr hps hx hd0));rotate_left;(focus((try simp only [hx,↓reduceIte,Fr.bB]at HX);have HR:=hid (rd_trans HF.out.gr hr);clear hr hx));rotate_left)
     | ((with_reducible refine Fr.is_lit ?_);(refine Fr.wl_lit1 HF.out Tryz.underlying49 Fr.tySS (by simp) (by simp) rfl (Fr.cells_one (HF.out.da 0 _ _ rfl).one) rfl [.list 6 (Tr.stDs ss)] ?_ ?_);(focus(repeat' (first|exact Da.row_nil _ _|exact HF.out.da 0 _ _ rfl|refine Da.row_cons ?_ ?_)));intro b1 W1 HF1;replace HF:=hid HF1;clear HF1)
     | (first|((with_reducible refine is_store (T:=49) ?_);(first|((refine Fr.wl_store1 0 HF.out Fr.tySSS rfl rfl rfl rfl rfl ?_ ?_);(focus(rfl))));intro W1 HF1;simp only [setL,z0,z1]at HF1;replace HF:=hid HF1;clear HF1)))
    all_goals first|(exact⟨rfl,.inr ⟨_,HX.out,rfl,HR.out⟩⟩)|skip
    go_end0
    have HV:=HF.out.close (k:=1) rfl
    exact .inl ⟨_,_,_,_,_,_,_,_,.list 1 [],_,_,HX.out,rfl,(HV.data (v:=.slice none 0 0) (d:=.list 1 []) (m:=W1.heap.size) (Fr.is_nil _) HV.size (fun i r b hi hb=>(HV.fpl hi hb).2)).pick [0] [1,0,2] (by decide) (by simp) (by simp),by simp only [Tr.stD,Tr.exDs,Tr.blDs];rfl⟩
  ·have HX1:=HX.out
   unfold Fr.for3 at HX1
   replace HX:=hid HX1
   clear HX1
   go_wp2_with (first
    | (go_at_call 98;(with_reducible refine(skip_any _ B bp en _ _ HF.out.kp).mono ?_);rintro e W1 ⟨hr,⟨_,l1,v,hx,hps,rfl,rfl⟩|⟨q,hx,rfl⟩⟩;(focus((try simp only [hx,↓reduceIte,Fr.bB]at HX);replace HL:=hid (con_add (Tr.con_skip en _ _) hx HL.out);replace HF:=hid (Fr.PF.call HB.out HF.out hr hps);clear hr hps hx));rotate_left;(focus((try simp only [hx,↓reduceIte,Fr.bB]at HX);have HR:=hid (rd_trans HF.out.gr hr);clear hr hx));rotate_left)
    | (go_at_call 104;(with_reducible refine(HC.out.st _ B bp _ (by have h1:=HL.out;have h2:=HN.out;(try have h3:=HM.out);omega) HF.out.kp).mono ?_);rintro e W1 ⟨hr,⟨ss,l1,v,hx,hps,rfl,hV⟩|⟨q,hx,rfl⟩⟩;(focus(have hd0:=hV;(try simp only [hx,↓reduceIte,Fr.bB]at HX);replace HL:=hid (Fr.suf_add (HC.out.ce.rg.st _) hx HL.out);have HF2:=Fr.PF.call HB.out HF.out hr hps;replace HF2:=Fr.Fm.since HF.out HF2 hd0;replace HF:=hid HF2;clear HF2 hr hps hx hd0));rotate_left;(focus((try simp only [hx,↓reduceIte,Fr.bB]at HX);have HR:=hid (rd_trans HF.out.gr hr);clear hr hx));rotate_left)
    | ((with_reducible refine Fr.is_lit ?_);(refine Fr.wl_lit1 HF.out Tryz.underlying49 Fr.tySS (by simp) (by simp) rfl (Fr.cells_one (HF.out.da 0 _ _ rfl).one) rfl [.list 6 (Tr.stDs ss)] ?_ ?_);(focus(repeat' (first|exact Da.row_nil _ _|exact HF.out.da 0 _ _ rfl|refine Da.row_cons ?_ ?_)));intro b1 W1 HF1;replace HF:=hid HF1;clear HF1)
    | (first|((with_reducible refine is_store (T:=49) ?_);(first|((refine Fr.wl_store1 0 HF.out Fr.tySSS rfl rfl rfl rfl rfl ?_ ?_);(focus(rfl))));intro W1 HF1;simp only [setL,z0,z1]at HF1;replace HF:=hid HF1;clear HF1)))
   all_goals first|(exact⟨rfl,.inr ⟨_,HX.out,rfl,HR.out⟩⟩)|skip
   go_end0
   have HV:=HF.out.close (k:=1) rfl
   exact .inl ⟨_,_,_,_,_,_,_,_,.list 1 [],_,_,HX.out,rfl,(HV.data (v:=.slice none 0 0) (d:=.list 1 []) (m:=W1.heap.size) (Fr.is_nil _) HV.size (fun i r b hi hb=>(HV.fpl hi hb).2)).pick [0] [1,0,2] (by decide) (by simp) (by simp),by simp only [Tr.stD,Tr.exDs,Tr.blDs];rfl⟩
end Go.Proofs.YtlhmkfcbldghfaaGreatDoor
