/- The walk of tree's parser's stat,its parts. Conditions: the parser's block is as it is made;shorter texts are read as they should be. -/
import Derived.Test.YtlhmkfcbldghfaaGreatDoorTuH
namespace Go.Proofs.YtlhmkfcbldghfaaGreatDoor
set_option linter.all false
open Go.Lib (hid)
set_option maxRecDepth 1000000
set_option maxHeartbeats 16000000
open Go.RowKit
open Fr (con_add dzE is_load is_nil is_store setL tkM tyE tyInt tyS tySE wE wT wl_load wl_store)
open Tr (exD exDs rd_trans stD statO)
namespace Fr
open Da Tr
theorem cnt_arms{en:Int}{r:Rc}(hr:Rg r)(wd:List UInt8)(l:List Tok)(ag:List (Ex × List St))(l1:List Tok)(h:armsP en r wd l=.ok ag l1):ag.length+l1.length≤l.length:=
 cnt_many (fun l=>con_bind (con_expr en hr l) fun _ _=>suf_bind (con_skip en _ _).suf fun _ _=>suf_bind (hr.st _) fun _ _=>suf_ok _ _) _ _ _ _ h
theorem fm_results2{P:Program}{w W:World}{g:Option Nat}{Kp:World→Prop}{R:List RI}{Ds:List (Value × D)}{fn:Func}{p t:Tmp}{T:TypeId}(k:Nat)(h:Fm w g Kp W R Ds)(hf:fn.results=#[.cell p T,.tmp t]){tmps:Array Value}{b:Nat}{cs:List Value}(hp:tmps.getD p undef=.pointer (some ⟨b,0,none⟩))(hk:R[k]?=some (.blk b cs)){d:TypeDesc}(hu:P.underlying T=some d)(hd:d.isRow=true){z:List Value}{bytes:Nat}(hT:TyIs P T z bytes)(hz:cs.length=z.length){v:Value}(hv:tmps.getD t undef=v) :
  (results fn tmps).run P W=.ok (.tuple #[.agg cs.toArray,v]) W:=by
 obtain⟨i,iv,hi,_,_,hs,_⟩:=hT.info
 obtain⟨ty,hb⟩:=h.at k hk
 have hp':tmps[p]?.getD undef=.pointer (some ⟨b,0,none⟩):=by simpa using hp
 have hv':tmps[t]?.getD undef=v:=by simpa using hv
 have hr:=run_loadVar_row (P:=P) W b ty T cs.toArray (0,0) d hb hu (by cases d <;> simp_all) (by rw [hi];simp [hs,hz])
 simp [results,hf,hp',hv',asAddr,hr]
def VSo(lo:Nat)(w:World)(v:Value)(o:Option St):Prop:=
 (∃(s:St) (k:Int) (nm:ByteArray) (v2 v3 v4:Value) (p:Int) (d2 d3 d4:D),o=some s∧v=.tuple #[.agg #[.int .i64 k,.string nm,v2,v3,v4,.int .i64 p],.bool true]∧stD s=[.int k,.str nm.data.toList,d2,d3,d4,.int p] ∧
  Is w (fun b=>lo≤b) v2 d2∧Is w (fun b=>lo≤b) v3 d3∧Is w (fun b=>lo≤b) v4 d4) ∨
 (o=none∧∃ p:Int,v=.tuple #[.agg #[.int .i64 0,.string ⟨#[]⟩,.slice none 0 0,.slice none 0 0,.slice none 0 0,.int .i64 p],.bool false])
end Fr
theorem stat_none(en:Int)(n:Nat)(r:Tr.Rc)(hC:Fr.CR en n r)(hE:Fr.CV 147 en n (Tr.exprP en r) Tr.VEx)(hDs:Fr.CV 189 en n (Tr.designP en r) Tr.VEx)(w:World)(B bp:Nat)(l:List Tr.Tok)(hl:l.length≤n)(hp:Tr.PS w B bp en l)(h1:Tr.isN l=false)(h2:Tr.isS [73,70] l=false)(h3:Tr.isS [87,72,73,76,69] l=false)(h4:Tr.isS [67,65,83,69] l=false)(h5:Tr.isS [82,69,80,69,65,84] l=false)(h6:Tr.isS [70,79,82] l=false):Calls Tryz.prog 150 #[.pointer (some ⟨bp,0,none⟩)] w (Tr.Res w B bp en (statO en r l) (Fr.VSo w.heap.size)):=by
 obtain⟨X,hX⟩:∃ X,X=statO en r l:=⟨_,rfl⟩
 rw [show statO en r l=X from hX.symm]
 unfold statO at hX
 have HX:=hid hX
 have HB:RowKit.Hid (B≤w.heap.size):=hp.size
 have HF:=hid (Fr.pf_start hp)
 have HL:=hid (show l.length+0≤l.length from Nat.le_refl _)
 have HN:=hid hl
 have HLEN:=hid hp.len
 have HC:=hid hC
 have HE:=hid hE
 have HDs:=hid hDs
 clear hC hE hDs
 have HT1:=hid h1
 have HT2:=hid h2
 have HT3:=hid h3
 have HT4:=hid h4
 have HT5:=hid h5
 have HT6:=hid h6
 clear h1 h2 h3 h4 h5 h6
 have hfl0:=Fr.fld_tok0
 have hfl1:=Fr.fld_tok1
 have hfl3:=Fr.fld_tok3
 clear hX hp hl
 go_enter Tryz.func150,Tryz.ntmps150
 go_wp2_with (first
  | ((with_reducible refine Fr.is_alloc (dst:=some 2) ?_);(first|(refine Fr.wl_alloc HF.out tyS ?_));intro b2 W1 HF1;replace HF:=hid HF1;clear HF1)
  | (go_at_call 97;(with_reducible refine(Fr.peek_split _ B bp en _ HF.out.kp).mono ?_);rintro e W1 ⟨hb,kd,t2,n2,q2,hpk,hq,rfl,⟨hn,rfl⟩|⟨hn,h1,h2⟩⟩;subst hq;(focus((exact absurd (hn.symm.trans HT1.out) (by decide))));rotate_left;(focus(subst hq;first|(exact absurd (hn.symm.trans HT1.out) (by decide))|(exact absurd (hn.symm.trans HT2.out) (by decide))|(exact absurd (hn.symm.trans HT3.out) (by decide))|(exact absurd (hn.symm.trans HT4.out) (by decide))|(exact absurd (hn.symm.trans HT5.out) (by decide))|(exact absurd (hn.symm.trans HT6.out) (by decide))|((try simp only [hn,↓reduceIte,Fr.bB]at HX);replace HF:=hid (HF.out.below hb);clear hb hpk)));rotate_left)
  | (go_at_call 100;(with_reducible refine(Fr.took_split _ B bp en _ _ HF.out.kp).mono ?_);rintro e W1 ⟨hr,⟨hs,rfl,hps⟩|⟨hs,rfl,hps⟩⟩;(focus(first|(exact absurd (hs.symm.trans HT2.out) (by decide))|(exact absurd (hs.symm.trans HT3.out) (by decide))|(exact absurd (hs.symm.trans HT4.out) (by decide))|(exact absurd (hs.symm.trans HT5.out) (by decide))|(exact absurd (hs.symm.trans HT6.out) (by decide))));rotate_left;(focus(((try simp only [hs,↓reduceIte,Fr.bB]at HX);replace HF:=hid (Fr.PF.call HB.out HF.out hr hps);clear hr hps hs)));rotate_left)
  | (first|((with_reducible refine is_store (T:=3) ?_);(first|((refine Fr.wl_store1 0 HF.out tyInt rfl rfl rfl rfl rfl ?_ ?_);(focus(rfl))));intro W1 HF1;simp only [setL,z0,z1]at HF1;replace HF:=hid HF1;clear HF1)|((with_reducible refine is_store (T:=51) ?_);(first|(refine wl_store 0 HF.out tyS rfl rfl rfl rfl rfl (z4 rfl) oT ?_));intro W1 HF1;simp only [setL,z0,z1]at HF1;replace HF:=hid HF1;clear HF1))
  | (first|((with_reducible refine is_load (T:=51) ?_);(first|(refine wl_load 0 HF.out rfl rfl Tryz.underlying51 rfl tyS rfl ?_)))))
 all_goals first|(exact⟨rfl,HR.out,.inr ⟨_,HX.out,rfl⟩⟩)|skip
 refine bodyPost_ret (Fr.fm_results2 0 HF.out Tryz.results150 rfl rfl Tryz.underlying51 rfl tyS rfl rfl) rfl ?_
 exact⟨Fr.PF.rd HF.out,.inl ⟨_,_,_,HX.out,Fr.PF.ps HF.out,rfl,.inr ⟨rfl,_,rfl⟩⟩⟩
theorem stat_name(en:Int)(n:Nat)(r:Tr.Rc)(hC:Fr.CR en n r)(hE:Fr.CV 147 en n (Tr.exprP en r) Tr.VEx)(hDs:Fr.CV 189 en n (Tr.designP en r) Tr.VEx)(w:World)(B bp:Nat)(l:List Tr.Tok)(hl:l.length≤n)(hp:Tr.PS w B bp en l)(h1:Tr.isN l=true):Calls Tryz.prog 150 #[.pointer (some ⟨bp,0,none⟩)] w (Tr.Res w B bp en (statO en r l) (Fr.VSo w.heap.size)):=by
 obtain⟨X,hX⟩:∃ X,X=statO en r l:=⟨_,rfl⟩
 rw [show statO en r l=X from hX.symm]
 unfold statO at hX
 have HX:=hid hX
 have HB:RowKit.Hid (B≤w.heap.size):=hp.size
 have HF:=hid (Fr.pf_start hp)
 have HL:=hid (show l.length+0≤l.length from Nat.le_refl _)
 have HN:=hid hl
 have HLEN:=hid hp.len
 have HC:=hid hC
 have HE:=hid hE
 have HDs:=hid hDs
 clear hC hE hDs
 have HT1:=hid h1
 clear h1
 have hfl0:=Fr.fld_tok0
 have hfl1:=Fr.fld_tok1
 have hfl3:=Fr.fld_tok3
 clear hX hp hl
 go_enter Tryz.func150,Tryz.ntmps150
 go_wp2_with (first
  | ((with_reducible refine Fr.is_alloc (dst:=some 2) ?_);(first|(refine Fr.wl_alloc HF.out tyS ?_));intro b2 W1 HF1;replace HF:=hid HF1;clear HF1)
  | (go_at_call 97;(with_reducible refine(Fr.peek_split _ B bp en _ HF.out.kp).mono ?_);rintro e W1 ⟨hb,kd,t2,n2,q2,hpk,hq,rfl,⟨hn,rfl⟩|⟨hn,h1,h2⟩⟩;subst hq;(focus(((try simp only [hn,↓reduceIte,Fr.bB]at HX);replace HF:=hid (HF.out.below hb);clear hb hpk)));rotate_left;(focus(subst hq;first|(exact absurd (hn.symm.trans HT1.out) (by decide))|((try simp only [hn,↓reduceIte,Fr.bB]at HX);replace HF:=hid (HF.out.below hb);clear hb hpk)));rotate_left)
  | (go_at_call 100;(with_reducible refine(Fr.took_split _ B bp en _ _ HF.out.kp).mono ?_);rintro e W1 ⟨hr,⟨hs,rfl,hps⟩|⟨hs,rfl,hps⟩⟩;(focus(((try simp only [hs,↓reduceIte,Fr.bB]at HX);replace HF:=hid (Fr.PF.call HB.out HF.out hr hps);replace HL:=hid (Fr.tail_add hs HL.out);clear hr hps hs)));rotate_left;(focus(((try simp only [hs,↓reduceIte,Fr.bB]at HX);replace HF:=hid (Fr.PF.call HB.out HF.out hr hps);clear hr hps hs)));rotate_left)
  | (first|((with_reducible refine is_store (T:=3) ?_);(first|((refine Fr.wl_store1 0 HF.out tyInt rfl rfl rfl rfl rfl ?_ ?_);(focus(rfl)))|((refine Fr.wl_store1 1 HF.out tyInt rfl rfl rfl rfl rfl ?_ ?_);(focus(rfl))));intro W1 HF1;simp only [setL,z0,z1]at HF1;replace HF:=hid HF1;clear HF1))
  | (go_at_call 189;(with_reducible refine(HDs.out _ B bp _ (by have h1:=HL.out;have h2:=HN.out;(try have h3:=HM.out);omega) HF.out.kp).mono ?_);rintro e W1 ⟨hr,⟨ta,l1,v,hx,hps,rfl,hV⟩|⟨q,hx,rfl⟩⟩;(focus(obtain⟨k0,n0,tx0,op0,xs0,p0,va,rfl,hD,hdp,hd0⟩:=Fr.VEx.parts hV;(try simp only [hx,↓reduceIte,Fr.bB]at HX);replace HL:=hid (con_add (Tr.con_design en HC.out.ce.rg _) hx HL.out);have HF2:=Fr.PF.call HB.out HF.out hr hps;replace HF2:=Fr.Fm.since HF.out HF2 hd0;replace HF:=hid HF2;clear HF2 hr hps hx hd0));rotate_left;(focus((try simp only [hx,↓reduceIte,Fr.bB]at HX);have HR:=hid (rd_trans HF.out.gr hr);clear hr hx));rotate_left)
  | ((with_reducible refine Fr.is_lit ?_);(refine Fr.wl_litR HF.out Tryz.underlying47 tyE (by simp) (by simp) rfl rfl rfl (exD ta) ?_ ?_);(focus(rw [hD];(repeat' (first|exact Da.row_nil _ _|exact Da.Is.int _|exact Da.Is.str _|exact HF.out.da 0 _ _ rfl|refine Da.row_cons ?_ ?_))));intro b W1 HF1;replace HF:=hid HF1;clear HF1)
  | (first|((with_reducible refine is_store (T:=47) ?_);(first|((refine Fr.wl_store1 1 HF.out tySE rfl rfl rfl rfl rfl ?_ ?_);(focus(rfl))));intro W1 HF1;simp only [setL,z0,z1]at HF1;replace HF:=hid HF1;clear HF1))
  | (first|((with_reducible refine is_load (T:=51) ?_);(first|(refine wl_load 1 HF.out rfl rfl Tryz.underlying51 rfl tyS rfl ?_))))
  | (first|((with_reducible refine is_store (T:=51) ?_);(first|(refine wl_store 1 HF.out tyS rfl rfl rfl rfl rfl (z4 rfl) oT ?_));intro W1 HF1;simp only [setL,z0,z1]at HF1;replace HF:=hid HF1;clear HF1)))
 all_goals first|(exact⟨rfl,HR.out,.inr ⟨_,HX.out,rfl⟩⟩)|skip
 ·obtain⟨te,hte⟩:∃ te,te=ta:=⟨_,rfl⟩
  subst hte
  clear hD hdp hV
  obtain⟨pl,hpl⟩:∃ pl:Option Addr,pl=some ⟨b,0,none⟩:=⟨_,rfl⟩
  obtain⟨cl,hcl⟩:∃ cl:Nat,cl=1:=⟨_,rfl⟩
  replace HF:=hid (show Fr.PF w B bp en _ _ [.blk b2 [.int .i64 1,.string ⟨#[]⟩,.slice pl 1 cl,.slice none 0 0,.slice none 0 0,.int .i64 (Tr.posOf en l)],.row (.slice pl 1 cl) 53 6 [exD te]] []from by rw [hpl,hcl];exact HF.out.pick [1,0] [] (by decide) (by simp) (by simp))
  clear hpl hcl
  have hlt1:((1:Nat):Int)<((1:Nat):Int)+1:=by omega
  replace HF:=hid HF.out.drew
  refine wp_region_G (UpTo 10 (fun X=>b2<X.heap.size∧X.cell? ⟨b2,2,none⟩=some (.slice pl (1) cl))) 11 (by kernel_rfl) (by kernel_rfl) (fun _=>⟨HF.out.ltAt 0 rfl,HF.out.cellAt 0 rfl 2 rfl⟩) (fun _ hS=>?_)
  generalize World.drew _=W1 at HF hS ⊢
  refine tkM (n:=11) (is:=[0]) (k:=1) rfl (by kernel_rfl) hS ?_
  repeat(refine wT (v:=?_) rfl (by rfl) (fun X xb=>?_) ?_;rotate_left 1;(focus(go_simp;try with_reducible rfl));try simp only [Act.put,zA,z0,z1])
  refine wE fun hS=>?_
  refine Fr.tkB (n:=11) (is:=[1]) [[1]] (k:=1) rfl (by kernel_rfl) hS ?_
  repeat(refine wT (v:=?_) rfl (by rfl) (fun X xb=>?_) ?_;rotate_left 1;(focus(go_simp;try with_reducible rfl));try simp only [Act.put,zA,z0,z1])
  refine wE fun hS=>?_
  refine tkM (n:=11) (is:=[2,4]) (k:=2) rfl (by kernel_rfl) hS ?_
  repeat(refine wT (v:=?_) rfl (by rfl) (fun X xb=>?_) ?_;rotate_left 1;(focus(go_simp;try with_reducible rfl));try simp only [Act.put,zA,z0,z1])
  refine wE fun hS=>?_
  refine wpAnyG_ready (rs:=[3,5]) (by kernel_rfl) (by simp) ?_
  refine AllReadyG.cons rfl (fun K hK=>?_) (AllReadyG.cons rfl (fun K hK=>?_) AllReadyG.nil)
  ·skip
   go_simp
   (go_at_call 147;(with_reducible refine(HE.out _ B bp _ (by have h1:=HL.out;have h2:=HN.out;(try have h3:=HM.out);omega) HF.out.kp).mono ?_);rintro e W1 ⟨hr,⟨ta,l1,v,hx,hps,rfl,hV⟩|⟨q,hx,rfl⟩⟩;(focus(obtain⟨k0,n0,tx0,op0,xs0,p0,va,rfl,hD,hdp,hd0⟩:=Fr.VEx.parts hV;(try simp only [hx,↓reduceIte,Fr.bB]at HX);replace HL:=hid (con_add (Tr.con_expr en HC.out.ce.rg _) hx HL.out);have HF2:=Fr.PF.call HB.out HF.out hr hps;replace HF2:=Fr.Fm.since HF.out HF2 hd0;replace HF:=hid HF2;clear HF2 hr hps hx hd0));rotate_left;(focus((try simp only [hx,↓reduceIte,Fr.bB]at HX);have HR:=hid (rd_trans HF.out.gr hr);clear hr hx));rotate_left)
   rotate_left
   ·go_simp
    exact⟨rfl,HR.out,.inr ⟨_,HX.out,rfl⟩⟩
   go_simp
   refine hK.out _ _ (fun _=>⟨HF.out.ltAt 0 rfl,HF.out.cellAt 0 rfl 2 rfl⟩) fun hS=>?_;clear hK K
   try simp only [Act.put,zA,z0,z1]
   refine rd1 (i:=5) (by kernel_rfl) (.cons rfl (fun K hK=>?_) .nil)
   refine(if_pos (by rfl)).mpr ?_
   refine Fr.ow_lit1 HF.out Tryz.underlying47 tyE (by simp) (by simp) rfl rfl rfl rfl (row:=dzE) Fr.row_zE ?_
   intro b1 W1 HF1
   replace HF:=hid HF1;clear HF1
   refine hK.out _ _ (fun _=>⟨HF.out.ltAt 0 rfl,HF.out.cellAt 0 rfl 2 rfl⟩) fun hS=>?_;clear hK K
   try simp only [Act.put,zA,z0,z1]
   refine rd1 (i:=6) (by kernel_rfl) (.cons rfl (fun K hK=>?_) .nil)
   refine(if_pos (by rfl)).mpr ?_
   refine Fr.ow_append 1 0 HF.out Tryz.underlying47 tyE (by simp) (by simp) rfl rfl rfl rfl rfl rfl ?_ ?_
   focus(simp)
   intro v1 W1 HF1
   simp only [setL,z0,z1]at HF1
   obtain⟨bl,cap,rfl,hcp,hcm⟩:∃ b cap:Nat,v1=.slice (some ⟨b,0,none⟩) (1+1) cap∧1+1≤cap∧cap≤maxLen:=by
    rcases HF1.rowForm (k:=1) rfl with⟨h,_⟩|h
    ·simp at h
    ·simpa []using h
   replace HF:=hid HF1
   clear HF1
   refine hK.out _ _ (fun _=>⟨HF.out.ltAt 0 rfl,HF.out.cellAt 0 rfl 2 rfl⟩) fun hS=>?_;clear hK K
   try simp only [Act.put,zA,z0,z1]
   refine tkM (n:=11) (is:=[7,9]) (k:=2) rfl (by kernel_rfl) hS ?_
   repeat(refine wT (v:=?_) rfl (by rfl) (fun X xb=>?_) ?_;rotate_left 1;(focus(go_simp;try with_reducible rfl));try simp only [Act.put,zA,z0,z1])
   refine wE fun hS=>?_
   refine wpAnyG_ready (rs:=[8,10]) (by kernel_rfl) (by simp) ?_
   refine AllReadyG.cons rfl (fun K hK=>?_) (AllReadyG.cons rfl (fun K hK=>?_) AllReadyG.nil)
   ·skip
    refine(if_pos (by rfl)).mpr ?_
    refine Fr.ow_storeRow 1 HF.out tyE rfl rfl rfl (1) 0 (by first|rfl|simp|omega) (row:=dzE) (by simp []) (by rw [hD];simp) rfl rfl rfl (nd:=exD ta) ?_ ?_
    focus(rw [hD];(repeat' (first|exact Da.row_nil _ _|exact Da.Is.int _|exact Da.Is.str _|exact HF.out.da 1 _ _ rfl|refine Da.row_cons ?_ ?_)))
    intro W1 HF1
    rw [Fr.set_zE hD]at HF1
    simp only [z0,z1]at HF1
    replace HF:=hid HF1;clear HF1
    refine hK.out _ _ (fun _=>⟨HF.out.ltAt 0 rfl,HF.out.cellAt 0 rfl 2 rfl⟩) fun hS=>?_;clear hK K
    try simp only [Act.put,zA,z0,z1]
    refine rd1 (i:=10) (by kernel_rfl) (.cons rfl (fun K hK=>?_) .nil)
    refine(if_pos (by rfl)).mpr ?_
    (first|((refine Fr.ow_store1 0 HF.out tySE rfl rfl rfl rfl rfl rfl ?_ ?_);(focus(rfl))))
    intro W1 HF1
    simp only [setL,z0,z1]at HF1;replace HF:=hid HF1;clear HF1
    refine hK.out _ _ (fun h=>absurd h (by simp [Fr.setAll])) fun hS=>?_;clear hK K
    try simp only [Act.put,zA,z0,z1]
    refine wpAnyG_done (by kernel_rfl) ?_ _
    clear hS
    replace HF:=hid (show Fr.PF w B bp en l1 W1 _ []from by have h1:=HF.out;rw [show 1=([exD te]).length by rfl,Fr.last_set]at h1;exact h1.pick [0,1] [] (by decide) (by simp) (by simp))
    go_wp2_with (first
     | (first|((with_reducible refine is_load (T:=51) ?_);(first|(refine wl_load 0 HF.out rfl rfl Tryz.underlying51 rfl tyS rfl ?_))))
     | (first|((with_reducible refine is_store (T:=51) ?_);(first|(refine wl_store 0 HF.out tyS rfl rfl rfl rfl rfl (z4 rfl) oT ?_));intro W1 HF1;simp only [setL,z0,z1]at HF1;replace HF:=hid HF1;clear HF1)))
    have HV:=HF.out.close (k:=1) rfl
    refine bodyPost_ret (Fr.fm_results2 0 HF.out Tryz.results150 rfl rfl Tryz.underlying51 rfl tyS rfl rfl) rfl ?_
    exact⟨Fr.PF.rd HF.out,.inl ⟨_,_,_,HX.out,Fr.PF.ps HF.out,rfl,.inl ⟨_,_,_,_,_,_,_,_,_,_,rfl,rfl,(by simp only [stD,exDs];rfl),HV.out 0 rfl,is_nil 1,is_nil 1⟩⟩⟩
   ·skip
    refine(if_pos (by rfl)).mpr ?_
    (first|((refine Fr.ow_store1 0 HF.out tySE rfl rfl rfl rfl rfl rfl ?_ ?_);(focus(rfl))))
    intro W1 HF1
    simp only [setL,z0,z1]at HF1;replace HF:=hid HF1;clear HF1
    refine hK.out _ _ (fun h=>absurd h (by simp [Fr.setAll])) fun hS=>?_;clear hK K
    try simp only [Act.put,zA,z0,z1]
    refine rd1 (i:=8) (by kernel_rfl) (.cons rfl (fun K hK=>?_) .nil)
    refine(if_pos (by rfl)).mpr ?_
    refine Fr.ow_storeRow 1 HF.out tyE rfl rfl rfl (1) 0 (by first|rfl|simp|omega) (row:=dzE) (by simp []) (by rw [hD];simp) rfl rfl rfl (nd:=exD ta) ?_ ?_
    focus(rw [hD];(repeat' (first|exact Da.row_nil _ _|exact Da.Is.int _|exact Da.Is.str _|exact HF.out.da 1 _ _ rfl|refine Da.row_cons ?_ ?_)))
    intro W1 HF1
    rw [Fr.set_zE hD]at HF1
    simp only [z0,z1]at HF1
    replace HF:=hid HF1;clear HF1
    refine hK.out _ _ (fun h=>absurd h (by simp [Fr.setAll])) fun hS=>?_;clear hK K
    try simp only [Act.put,zA,z0,z1]
    refine wpAnyG_done (by kernel_rfl) ?_ _
    clear hS
    replace HF:=hid (show Fr.PF w B bp en l1 W1 _ []from by have h1:=HF.out;rw [show 1=([exD te]).length by rfl,Fr.last_set]at h1;exact h1.pick [0,1] [] (by decide) (by simp) (by simp))
    go_wp2_with (first
     | (first|((with_reducible refine is_load (T:=51) ?_);(first|(refine wl_load 0 HF.out rfl rfl Tryz.underlying51 rfl tyS rfl ?_))))
     | (first|((with_reducible refine is_store (T:=51) ?_);(first|(refine wl_store 0 HF.out tyS rfl rfl rfl rfl rfl (z4 rfl) oT ?_));intro W1 HF1;simp only [setL,z0,z1]at HF1;replace HF:=hid HF1;clear HF1)))
    have HV:=HF.out.close (k:=1) rfl
    refine bodyPost_ret (Fr.fm_results2 0 HF.out Tryz.results150 rfl rfl Tryz.underlying51 rfl tyS rfl rfl) rfl ?_
    exact⟨Fr.PF.rd HF.out,.inl ⟨_,_,_,HX.out,Fr.PF.ps HF.out,rfl,.inl ⟨_,_,_,_,_,_,_,_,_,_,rfl,rfl,(by simp only [stD,exDs];rfl),HV.out 0 rfl,is_nil 1,is_nil 1⟩⟩⟩
  ·skip
   refine(if_pos (by rfl)).mpr ?_
   refine Fr.ow_lit1 HF.out Tryz.underlying47 tyE (by simp) (by simp) rfl rfl rfl rfl (row:=dzE) Fr.row_zE ?_
   intro b1 W1 HF1
   replace HF:=hid HF1;clear HF1
   refine hK.out _ _ (fun _=>⟨HF.out.ltAt 0 rfl,HF.out.cellAt 0 rfl 2 rfl⟩) fun hS=>?_;clear hK K
   try simp only [Act.put,zA,z0,z1]
   refine rd1 (i:=3) (by kernel_rfl) (.cons rfl (fun K hK=>?_) .nil)
   go_simp
   (go_at_call 147;(with_reducible refine(HE.out _ B bp _ (by have h1:=HL.out;have h2:=HN.out;(try have h3:=HM.out);omega) HF.out.kp).mono ?_);rintro e W1 ⟨hr,⟨ta,l1,v,hx,hps,rfl,hV⟩|⟨q,hx,rfl⟩⟩;(focus(obtain⟨k0,n0,tx0,op0,xs0,p0,va,rfl,hD,hdp,hd0⟩:=Fr.VEx.parts hV;(try simp only [hx,↓reduceIte,Fr.bB]at HX);replace HL:=hid (con_add (Tr.con_expr en HC.out.ce.rg _) hx HL.out);have HF2:=Fr.PF.call HB.out HF.out hr hps;replace HF2:=Fr.Fm.since HF.out HF2 hd0;replace HF:=hid HF2;clear HF2 hr hps hx hd0));rotate_left;(focus((try simp only [hx,↓reduceIte,Fr.bB]at HX);have HR:=hid (rd_trans HF.out.gr hr);clear hr hx));rotate_left)
   rotate_left
   ·go_simp
    exact⟨rfl,HR.out,.inr ⟨_,HX.out,rfl⟩⟩
   go_simp
   refine hK.out _ _ (fun _=>⟨HF.out.ltAt 0 rfl,HF.out.cellAt 0 rfl 2 rfl⟩) fun hS=>?_;clear hK K
   try simp only [Act.put,zA,z0,z1]
   refine rd1 (i:=6) (by kernel_rfl) (.cons rfl (fun K hK=>?_) .nil)
   refine(if_pos (by rfl)).mpr ?_
   refine Fr.ow_append 1 1 HF.out Tryz.underlying47 tyE (by simp) (by simp) rfl rfl rfl rfl rfl rfl ?_ ?_
   focus(simp)
   intro v1 W1 HF1
   simp only [setL,z0,z1]at HF1
   obtain⟨bl,cap,rfl,hcp,hcm⟩:∃ b cap:Nat,v1=.slice (some ⟨b,0,none⟩) (1+1) cap∧1+1≤cap∧cap≤maxLen:=by
    rcases HF1.rowForm (k:=1) rfl with⟨h,_⟩|h
    ·simp at h
    ·simpa []using h
   replace HF:=hid HF1
   clear HF1
   refine hK.out _ _ (fun _=>⟨HF.out.ltAt 0 rfl,HF.out.cellAt 0 rfl 2 rfl⟩) fun hS=>?_;clear hK K
   try simp only [Act.put,zA,z0,z1]
   refine tkM (n:=11) (is:=[7,9]) (k:=2) rfl (by kernel_rfl) hS ?_
   repeat(refine wT (v:=?_) rfl (by rfl) (fun X xb=>?_) ?_;rotate_left 1;(focus(go_simp;try with_reducible rfl));try simp only [Act.put,zA,z0,z1])
   refine wE fun hS=>?_
   refine wpAnyG_ready (rs:=[8,10]) (by kernel_rfl) (by simp) ?_
   refine AllReadyG.cons rfl (fun K hK=>?_) (AllReadyG.cons rfl (fun K hK=>?_) AllReadyG.nil)
   ·skip
    refine(if_pos (by rfl)).mpr ?_
    refine Fr.ow_storeRow 1 HF.out tyE rfl rfl rfl (1) 0 (by first|rfl|simp|omega) (row:=dzE) (by simp []) (by rw [hD];simp) rfl rfl rfl (nd:=exD ta) ?_ ?_
    focus(rw [hD];(repeat' (first|exact Da.row_nil _ _|exact Da.Is.int _|exact Da.Is.str _|exact HF.out.da 0 _ _ rfl|refine Da.row_cons ?_ ?_)))
    intro W1 HF1
    rw [Fr.set_zE hD]at HF1
    simp only [z0,z1]at HF1
    replace HF:=hid HF1;clear HF1
    refine hK.out _ _ (fun _=>⟨HF.out.ltAt 0 rfl,HF.out.cellAt 0 rfl 2 rfl⟩) fun hS=>?_;clear hK K
    try simp only [Act.put,zA,z0,z1]
    refine rd1 (i:=10) (by kernel_rfl) (.cons rfl (fun K hK=>?_) .nil)
    refine(if_pos (by rfl)).mpr ?_
    (first|((refine Fr.ow_store1 0 HF.out tySE rfl rfl rfl rfl rfl rfl ?_ ?_);(focus(rfl))))
    intro W1 HF1
    simp only [setL,z0,z1]at HF1;replace HF:=hid HF1;clear HF1
    refine hK.out _ _ (fun h=>absurd h (by simp [Fr.setAll])) fun hS=>?_;clear hK K
    try simp only [Act.put,zA,z0,z1]
    refine wpAnyG_done (by kernel_rfl) ?_ _
    clear hS
    replace HF:=hid (show Fr.PF w B bp en l1 W1 _ []from by have h1:=HF.out;rw [show 1=([exD te]).length by rfl,Fr.last_set]at h1;exact h1.pick [0,1] [] (by decide) (by simp) (by simp))
    go_wp2_with (first
     | (first|((with_reducible refine is_load (T:=51) ?_);(first|(refine wl_load 0 HF.out rfl rfl Tryz.underlying51 rfl tyS rfl ?_))))
     | (first|((with_reducible refine is_store (T:=51) ?_);(first|(refine wl_store 0 HF.out tyS rfl rfl rfl rfl rfl (z4 rfl) oT ?_));intro W1 HF1;simp only [setL,z0,z1]at HF1;replace HF:=hid HF1;clear HF1)))
    have HV:=HF.out.close (k:=1) rfl
    refine bodyPost_ret (Fr.fm_results2 0 HF.out Tryz.results150 rfl rfl Tryz.underlying51 rfl tyS rfl rfl) rfl ?_
    exact⟨Fr.PF.rd HF.out,.inl ⟨_,_,_,HX.out,Fr.PF.ps HF.out,rfl,.inl ⟨_,_,_,_,_,_,_,_,_,_,rfl,rfl,(by simp only [stD,exDs];rfl),HV.out 0 rfl,is_nil 1,is_nil 1⟩⟩⟩
   ·skip
    refine(if_pos (by rfl)).mpr ?_
    (first|((refine Fr.ow_store1 0 HF.out tySE rfl rfl rfl rfl rfl rfl ?_ ?_);(focus(rfl))))
    intro W1 HF1
    simp only [setL,z0,z1]at HF1;replace HF:=hid HF1;clear HF1
    refine hK.out _ _ (fun h=>absurd h (by simp [Fr.setAll])) fun hS=>?_;clear hK K
    try simp only [Act.put,zA,z0,z1]
    refine rd1 (i:=8) (by kernel_rfl) (.cons rfl (fun K hK=>?_) .nil)
    refine(if_pos (by rfl)).mpr ?_
    refine Fr.ow_storeRow 1 HF.out tyE rfl rfl rfl (1) 0 (by first|rfl|simp|omega) (row:=dzE) (by simp []) (by rw [hD];simp) rfl rfl rfl (nd:=exD ta) ?_ ?_
    focus(rw [hD];(repeat' (first|exact Da.row_nil _ _|exact Da.Is.int _|exact Da.Is.str _|exact HF.out.da 0 _ _ rfl|refine Da.row_cons ?_ ?_)))
    intro W1 HF1
    rw [Fr.set_zE hD]at HF1
    simp only [z0,z1]at HF1
    replace HF:=hid HF1;clear HF1
    refine hK.out _ _ (fun h=>absurd h (by simp [Fr.setAll])) fun hS=>?_;clear hK K
    try simp only [Act.put,zA,z0,z1]
    refine wpAnyG_done (by kernel_rfl) ?_ _
    clear hS
    replace HF:=hid (show Fr.PF w B bp en l1 W1 _ []from by have h1:=HF.out;rw [show 1=([exD te]).length by rfl,Fr.last_set]at h1;exact h1.pick [0,1] [] (by decide) (by simp) (by simp))
    go_wp2_with (first
     | (first|((with_reducible refine is_load (T:=51) ?_);(first|(refine wl_load 0 HF.out rfl rfl Tryz.underlying51 rfl tyS rfl ?_))))
     | (first|((with_reducible refine is_store (T:=51) ?_);(first|(refine wl_store 0 HF.out tyS rfl rfl rfl rfl rfl (z4 rfl) oT ?_));intro W1 HF1;simp only [setL,z0,z1]at HF1;replace HF:=hid HF1;clear HF1)))
    have HV:=HF.out.close (k:=1) rfl
    refine bodyPost_ret (Fr.fm_results2 0 HF.out Tryz.results150 rfl rfl Tryz.underlying51 rfl tyS rfl rfl) rfl ?_
    exact⟨Fr.PF.rd HF.out,.inl ⟨_,_,_,HX.out,Fr.PF.ps HF.out,rfl,.inl ⟨_,_,_,_,_,_,_,_,_,_,rfl,rfl,(by simp only [stD,exDs];rfl),HV.out 0 rfl,is_nil 1,is_nil 1⟩⟩⟩
 ·skip
  have HV:=HF.out.close (k:=0) rfl
  refine bodyPost_ret (Fr.fm_results2 1 HF.out Tryz.results150 rfl rfl Tryz.underlying51 rfl tyS rfl rfl) rfl ?_
  exact⟨Fr.PF.rd HF.out,.inl ⟨_,_,_,HX.out,Fr.PF.ps HF.out,rfl,.inl ⟨_,_,_,_,_,_,_,_,_,_,rfl,rfl,(by simp only [stD,exDs];rfl),HV.out 0 rfl,is_nil 1,is_nil 1⟩⟩⟩
theorem stat_if(en:Int)(n:Nat)(r:Tr.Rc)(hC:Fr.CR en n r)(hE:Fr.CV 147 en n (Tr.exprP en r) Tr.VEx)(hDs:Fr.CV 189 en n (Tr.designP en r) Tr.VEx)(w:World)(B bp:Nat)(l:List Tr.Tok)(hl:l.length≤n)(hp:Tr.PS w B bp en l)(h1:Tr.isN l=false)(h2:Tr.isS [73,70] l=true):Calls Tryz.prog 150 #[.pointer (some ⟨bp,0,none⟩)] w (Tr.Res w B bp en (statO en r l) (Fr.VSo w.heap.size)):=by
 obtain⟨X,hX⟩:∃ X,X=statO en r l:=⟨_,rfl⟩
 rw [show statO en r l=X from hX.symm]
 unfold statO at hX
 have HX:=hid hX
 have HB:RowKit.Hid (B≤w.heap.size):=hp.size
 have HF:=hid (Fr.pf_start hp)
 have HL:=hid (show l.length+0≤l.length from Nat.le_refl _)
 have HN:=hid hl
 have HLEN:=hid hp.len
 have HC:=hid hC
 have HE:=hid hE
 have HDs:=hid hDs
 clear hC hE hDs
 have HT1:=hid h1
 have HT2:=hid h2
 clear h1 h2
 have hfl0:=Fr.fld_tok0
 have hfl1:=Fr.fld_tok1
 have hfl3:=Fr.fld_tok3
 clear hX hp hl
 go_enter Tryz.func150,Tryz.ntmps150
 go_wp2_with (first
  | ((with_reducible refine Fr.is_alloc (dst:=some 2) ?_);(first|(refine Fr.wl_alloc HF.out tyS ?_));intro b2 W1 HF1;replace HF:=hid HF1;clear HF1)
  | (go_at_call 97;(with_reducible refine(Fr.peek_split _ B bp en _ HF.out.kp).mono ?_);rintro e W1 ⟨hb,kd,t2,n2,q2,hpk,hq,rfl,⟨hn,rfl⟩|⟨hn,h1,h2⟩⟩;subst hq;(focus((exact absurd (hn.symm.trans HT1.out) (by decide))));rotate_left;(focus(subst hq;first|(exact absurd (hn.symm.trans HT1.out) (by decide))|(exact absurd (hn.symm.trans HT2.out) (by decide))|((try simp only [hn,↓reduceIte,Fr.bB]at HX);replace HF:=hid (HF.out.below hb);clear hb hpk)));rotate_left)
  | (go_at_call 100;(with_reducible refine(Fr.took_split _ B bp en _ _ HF.out.kp).mono ?_);rintro e W1 ⟨hr,⟨hs,rfl,hps⟩|⟨hs,rfl,hps⟩⟩;(focus(((try simp only [hs,↓reduceIte,Fr.bB]at HX);replace HF:=hid (Fr.PF.call HB.out HF.out hr hps);replace HL:=hid (Fr.tail_add hs HL.out);clear hr hps hs)));rotate_left;(focus(first|(exact absurd (hs.symm.trans HT2.out) (by decide))|((try simp only [hs,↓reduceIte,Fr.bB]at HX);replace HF:=hid (Fr.PF.call HB.out HF.out hr hps);clear hr hps hs)));rotate_left)
  | (first|((with_reducible refine is_store (T:=3) ?_);(first|((refine Fr.wl_store1 0 HF.out tyInt rfl rfl rfl rfl rfl ?_ ?_);(focus(rfl))));intro W1 HF1;simp only [setL,z0,z1]at HF1;replace HF:=hid HF1;clear HF1))
  | (go_at_call 190;(with_reducible refine(arms_any en n r HC.out HE.out [84,72,69,78] w _ B bp _ 3 [] (Tr.posOf en l) _ HB.out (by have h1:=HL.out;have h2:=HN.out;(try have h3:=HM.out);omega) HF.out).mono ?_);rintro e W1 (⟨ag,l1,ve,vb,hx,rfl,hf⟩|⟨q,hx,rfl,hr⟩);(focus((try simp only [hx,↓reduceIte,Fr.bB]at HX);replace HL:=hid (con_add (Tr.con_arms en HC.out.ce.rg _ _) hx HL.out);have HAG:=hid (Fr.cnt_arms HC.out.ce.rg _ _ _ _ hx);replace HF:=hid hf;clear hx hf));rotate_left;(focus((try simp only [hx,↓reduceIte,Fr.bB]at HX);have HR:=hid hr;clear hx hr));rotate_left)
  | (go_at_call 98;(with_reducible refine(skip_any _ B bp en _ _ HF.out.kp).mono ?_);rintro e W1 ⟨hr,⟨_,l2,v,hx,hps,rfl,rfl⟩|⟨q,hx,rfl⟩⟩;(focus((try simp only [hx,↓reduceIte,Fr.bB]at HX);replace HL:=hid (con_add (Tr.con_skip en _ _) hx HL.out);replace HF:=hid (Fr.PF.call HB.out HF.out hr hps);clear hr hps hx));rotate_left;(focus((try simp only [hx,↓reduceIte,Fr.bB]at HX);have HR:=hid (rd_trans HF.out.gr hr);clear hr hx));rotate_left)
  | (first|((with_reducible refine is_load (T:=51) ?_);(first|(refine wl_load 0 HF.out rfl rfl Tryz.underlying51 rfl tyS rfl ?_))))
  | (first|((with_reducible refine is_store (T:=51) ?_);(first|(refine wl_store 0 HF.out tyS rfl rfl rfl rfl rfl (z4 rfl) (by repeat' (first|exact z3 _|refine z2 ?_ ?_|rfl|exact HF.out.rowOne 1 rfl|exact HF.out.rowOne 2 rfl)) ?_));intro W1 HF1;simp only [setL,z0,z1]at HF1;replace HF:=hid HF1;clear HF1)))
 all_goals first|(exact⟨rfl,HR.out,.inr ⟨_,HX.out,rfl⟩⟩)|skip
 ·skip
  replace HF:=hid HF.out.drew
  refine wp_region_G (UpTo 7 (fun X=>b2<X.heap.size∧X.cell? ⟨b2,4,none⟩=some vb)) 8 (by kernel_rfl) (by kernel_rfl) (fun _=>⟨HF.out.ltAt 0 rfl,HF.out.cellAt 0 rfl 4 rfl⟩) (fun _ hS=>?_)
  generalize World.drew _=W1 at HF hS ⊢
  refine tkM (n:=8) (is:=[0]) (k:=1) rfl (by kernel_rfl) hS ?_
  repeat(refine wT (v:=?_) rfl (by rfl) (fun X xb=>?_) ?_;rotate_left 1;(focus(go_simp;try with_reducible rfl));try simp only [Act.put,zA,z0,z1])
  refine wE fun hS=>?_
  refine Fr.tkB (n:=8) (is:=[1]) [[1]] (k:=1) rfl (by kernel_rfl) hS ?_
  repeat(refine wT (v:=?_) rfl (by rfl) (fun X xb=>?_) ?_;rotate_left 1;(focus(go_simp;try with_reducible rfl));try simp only [Act.put,zA,z0,z1])
  refine wE fun hS=>?_
  refine tkM (n:=8) (is:=[2]) (k:=1) rfl (by kernel_rfl) hS ?_
  repeat(refine wT (v:=?_) rfl (by rfl) (fun X xb=>?_) ?_;rotate_left 1;(focus(go_simp;try with_reducible rfl));try simp only [Act.put,zA,z0,z1])
  refine wE fun hS=>?_
  refine rd1 (i:=3) (by kernel_rfl) (.cons rfl (fun K hK=>?_) .nil)
  go_simp
  (go_at_call 104;(with_reducible refine(HC.out.st _ B bp _ (by have h1:=HL.out;have h2:=HN.out;(try have h3:=HM.out);omega) HF.out.kp).mono ?_);rintro e W1 ⟨hr,⟨ss,l1,v,hx,hps,rfl,hV⟩|⟨q,hx,rfl⟩⟩;(focus(have hd0:=hV;(try simp only [hx,↓reduceIte,Fr.bB]at HX);replace HL:=hid (Fr.suf_add (HC.out.ce.rg.st _) hx HL.out);have HF2:=Fr.PF.call HB.out HF.out hr hps;replace HF2:=Fr.Fm.since HF.out HF2 hd0;replace HF:=hid HF2;clear HF2 hr hps hx hd0));rotate_left;(focus((try simp only [hx,↓reduceIte,Fr.bB]at HX);have HR:=hid (rd_trans HF.out.gr hr);clear hr hx));rotate_left)
  rotate_left
  ·go_simp
   exact⟨rfl,HR.out,.inr ⟨_,HX.out,rfl⟩⟩
  go_simp
  refine hK.out _ _ (fun _=>⟨HF.out.ltAt 0 rfl,HF.out.cellAt 0 rfl 4 rfl⟩) fun hS=>?_;clear hK K
  try simp only [Act.put,zA,z0,z1]
  refine rd1 (i:=4) (by kernel_rfl) (.cons rfl (fun K hK=>?_) .nil)
  refine(if_pos (by rfl)).mpr ?_
  refine Fr.ow_lit1 HF.out Tryz.underlying49 Fr.tySS (by simp) (by simp) rfl rfl (Fr.cells_one (HF.out.da 0 _ _ rfl).one) rfl (row:=[.list 6 (Tr.stDs ss)]) ?_ ?_
  focus((repeat' (first|exact Da.row_nil _ _|exact HF.out.da 0 _ _ rfl|refine Da.row_cons ?_ ?_)))
  intro b1 W1 HF1
  replace HF:=hid HF1;clear HF1
  refine hK.out _ _ (fun _=>⟨HF.out.ltAt 0 rfl,HF.out.cellAt 0 rfl 4 rfl⟩) fun hS=>?_;clear hK K
  try simp only [Act.put,zA,z0,z1]
  refine rd1 (i:=5) (by kernel_rfl) (.cons rfl (fun K hK=>?_) .nil)
  refine(if_pos (by rfl)).mpr ?_
  refine Fr.ow_append 2 0 HF.out Tryz.underlying49 Fr.tySS (by simp) (by simp) rfl rfl rfl rfl rfl rfl ?_ ?_
  focus(have h1:=HAG.out;have h2:=HLEN.out;have h3:l.tail.length≤l.length:=(by simp);rw [Fr.blDs_len];simp only [List.length_map,List.length_cons,List.length_nil];omega)
  intro v1 W1 HF1
  simp only [setL,z0,z1]at HF1;replace HF:=hid HF1;clear HF1
  refine hK.out _ _ (fun _=>⟨HF.out.ltAt 0 rfl,HF.out.cellAt 0 rfl 4 rfl⟩) fun hS=>?_;clear hK K
  try simp only [Act.put,zA,z0,z1]
  refine tkM (n:=8) (is:=[6]) (k:=1) rfl (by kernel_rfl) hS ?_
  repeat(refine wT (v:=?_) rfl (by rfl) (fun X xb=>?_) ?_;rotate_left 1;(focus(go_simp;try with_reducible rfl));try simp only [Act.put,zA,z0,z1])
  refine wE fun hS=>?_
  refine rd1 (i:=7) (by kernel_rfl) (.cons rfl (fun K hK=>?_) .nil)
  refine(if_pos (by rfl)).mpr ?_
  (first|((refine Fr.ow_store1 0 HF.out Fr.tySSS rfl rfl rfl rfl rfl rfl ?_ ?_);(focus(exact HF.out.rowOne 2 rfl))))
  intro W1 HF1
  simp only [setL,z0,z1]at HF1;replace HF:=hid HF1;clear HF1
  refine hK.out _ _ (fun h=>absurd h (by simp [Fr.setAll])) fun hS=>?_;clear hK K
  try simp only [Act.put,zA,z0,z1]
  refine wpAnyG_done (by kernel_rfl) ?_ _
  clear hS
  go_wp2_with (first
   | (go_at_call 98;(with_reducible refine(skip_any _ B bp en _ _ HF.out.kp).mono ?_);rintro e W1 ⟨hr,⟨_,l2,v,hx,hps,rfl,rfl⟩|⟨q,hx,rfl⟩⟩;(focus((try simp only [hx,↓reduceIte,Fr.bB]at HX);replace HL:=hid (con_add (Tr.con_skip en _ _) hx HL.out);replace HF:=hid (Fr.PF.call HB.out HF.out hr hps);clear hr hps hx));rotate_left;(focus((try simp only [hx,↓reduceIte,Fr.bB]at HX);have HR:=hid (rd_trans HF.out.gr hr);clear hr hx));rotate_left)
   | (first|((with_reducible refine is_load (T:=51) ?_);(first|(refine wl_load 0 HF.out rfl rfl Tryz.underlying51 rfl tyS rfl ?_))))
   | (first|((with_reducible refine is_store (T:=51) ?_);(first|(refine wl_store 0 HF.out tyS rfl rfl rfl rfl rfl (z4 rfl) (by repeat' (first|exact z3 _|refine z2 ?_ ?_|rfl|exact HF.out.rowOne 1 rfl|exact HF.out.rowOne 2 rfl)) ?_));intro W1 HF1;simp only [setL,z0,z1]at HF1;replace HF:=hid HF1;clear HF1)))
  all_goals first|(exact⟨rfl,HR.out,.inr ⟨_,HX.out,rfl⟩⟩)|skip
  have HV:=(HF.out.close (k:=1) rfl).close (k:=2) rfl
  refine bodyPost_ret (Fr.fm_results2 0 HF.out Tryz.results150 rfl rfl Tryz.underlying51 rfl tyS rfl rfl) rfl ?_
  exact⟨Fr.PF.rd HF.out,.inl ⟨_,_,_,HX.out,Fr.PF.ps HF.out,rfl,.inl ⟨_,_,_,_,_,_,_,_,_,_,rfl,rfl,(by simp only [stD,Fr.blDs_snoc];rfl),HV.out 1 rfl,is_nil 1,HV.out 0 rfl⟩⟩⟩
 ·skip
  have HV:=(HF.out.close (k:=1) rfl).close (k:=2) rfl
  refine bodyPost_ret (Fr.fm_results2 0 HF.out Tryz.results150 rfl rfl Tryz.underlying51 rfl tyS rfl rfl) rfl ?_
  exact⟨Fr.PF.rd HF.out,.inl ⟨_,_,_,HX.out,Fr.PF.ps HF.out,rfl,.inl ⟨_,_,_,_,_,_,_,_,_,_,rfl,rfl,(by simp only [stD,List.append_nil];rfl),HV.out 1 rfl,is_nil 1,HV.out 0 rfl⟩⟩⟩
end Go.Proofs.YtlhmkfcbldghfaaGreatDoor
