/- The walk of tree's parser's stat,part 4. Conditions: the parser's block is as it is made;shorter texts are read as they should be. -/
import Derived.Test.YtlhmkfcbldghfaaGreatDoorTuIa
namespace Go.Proofs.YtlhmkfcbldghfaaGreatDoor
set_option linter.all false
open Go.Lib (hid)
set_option maxRecDepth 1000000
set_option maxHeartbeats 16000000
open Go.RowKit
open Fr (fld_tok0 fld_tok1 fld_tok3 is_alloc is_load is_store pf_start setL tyInt tyS wl_alloc wl_load wl_store wl_store1)
open Tr (exprP rd_trans statO)
theorem stat_while(en:Int)(n:Nat)(r:Tr.Rc)(hC:Fr.CR en n r)(hE:Fr.CV 147 en n (exprP en r) Tr.VEx)(hDs:Fr.CV 189 en n (Tr.designP en r) Tr.VEx)(w:World)(B bp:Nat)(l:List Tr.Tok)(hl:l.length≤n)(hp:Tr.PS w B bp en l)(h1:Tr.isN l=false)(h2:Tr.isS [73,70] l=false)(h3:Tr.isS [87,72,73,76,69] l=true):Calls Tryz.prog 150 #[.pointer (some ⟨bp,0,none⟩)] w (Tr.Res w B bp en (statO en r l) (Fr.VSo w.heap.size)):=by
 obtain⟨X,hX⟩:∃ X,X=statO en r l:=⟨_,rfl⟩
 rw [show statO en r l=X from hX.symm]
 unfold statO at hX
 have HX:=hid hX
 have HB:RowKit.Hid (B≤w.heap.size):=hp.size
 have HF:=hid (pf_start hp)
 have HL:=hid (show l.length+0≤l.length from Nat.le_refl _)
 have HN:=hid hl
 have HLEN:=hid hp.len
 have HC:=hid hC
 have HE:=hid hE
 have HDs:=hid hDs
 clear hC hE hDs
 have HT1:=hid h1
 have HT2:=hid h2
 have HT3:=hid h3
 clear h1 h2 h3
 have hfl0:=fld_tok0
 have hfl1:=fld_tok1
 have hfl3:=fld_tok3
 clear hX hp hl
 go_enter Tryz.func150,Tryz.ntmps150
 go_wp2_with (first
  | ((with_reducible refine is_alloc (dst:=some 2) ?_);(first|(refine wl_alloc HF.out tyS ?_));intro b2 W1 HF1;replace HF:=hid HF1;clear HF1)
  | (go_at_call 97;(with_reducible refine(Fr.peek_split _ B bp en _ HF.out.kp).mono ?_);rintro e W1 ⟨hb,kd,t2,n2,q2,hpk,hq,rfl,⟨hn,rfl⟩|⟨hn,h1,h2⟩⟩;subst hq;(focus((exact absurd (hn.symm.trans HT1.out) (by decide))));rotate_left;(focus(subst hq;first|(exact absurd (hn.symm.trans HT1.out) (by decide))|(exact absurd (hn.symm.trans HT2.out) (by decide))|(exact absurd (hn.symm.trans HT3.out) (by decide))|((try simp only [hn,↓reduceIte,Fr.bB]at HX);replace HF:=hid (HF.out.below hb);clear hb hpk)));rotate_left)
  | (go_at_call 100;(with_reducible refine(Fr.took_split _ B bp en _ _ HF.out.kp).mono ?_);rintro e W1 ⟨hr,⟨hs,rfl,hps⟩|⟨hs,rfl,hps⟩⟩;(focus(first|(exact absurd (hs.symm.trans HT2.out) (by decide))|((try simp only [hs,↓reduceIte,Fr.bB]at HX);replace HF:=hid (Fr.PF.call HB.out HF.out hr hps);replace HL:=hid (Fr.tail_add hs HL.out);clear hr hps hs)));rotate_left;(focus(first|(exact absurd (hs.symm.trans HT3.out) (by decide))|((try simp only [hs,↓reduceIte,Fr.bB]at HX);replace HF:=hid (Fr.PF.call HB.out HF.out hr hps);clear hr hps hs)));rotate_left)
  | (first|((with_reducible refine is_store (T:=3) ?_);(first|((refine wl_store1 0 HF.out tyInt rfl rfl rfl rfl rfl ?_ ?_);(focus(rfl))));intro W1 HF1;simp only [setL,z0,z1]at HF1;replace HF:=hid HF1;clear HF1))
  | (go_at_call 190;(with_reducible refine(arms_any en n r HC.out HE.out [68,79] w _ B bp _ 5 [] (Tr.posOf en l) _ HB.out (by have h1:=HL.out;have h2:=HN.out;(try have h3:=HM.out);omega) HF.out).mono ?_);rintro e W1 (⟨ag,l1,ve,vb,hx,rfl,hf⟩|⟨q,hx,rfl,hr⟩);(focus((try simp only [hx,↓reduceIte,Fr.bB]at HX);replace HL:=hid (Fr.con_add (Tr.con_arms en HC.out.ce.rg _ _) hx HL.out);have HAG:=hid (Fr.cnt_arms HC.out.ce.rg _ _ _ _ hx);replace HF:=hid hf;clear hx hf));rotate_left;(focus((try simp only [hx,↓reduceIte,Fr.bB]at HX);have HR:=hid hr;clear hx hr));rotate_left)
  | (go_at_call 98;(with_reducible refine(skip_any _ B bp en _ _ HF.out.kp).mono ?_);rintro e W1 ⟨hr,⟨_,l2,v,hx,hps,rfl,rfl⟩|⟨q,hx,rfl⟩⟩;(focus((try simp only [hx,↓reduceIte,Fr.bB]at HX);replace HL:=hid (Fr.con_add (Tr.con_skip en _ _) hx HL.out);replace HF:=hid (Fr.PF.call HB.out HF.out hr hps);clear hr hps hx));rotate_left;(focus((try simp only [hx,↓reduceIte,Fr.bB]at HX);have HR:=hid (rd_trans HF.out.gr hr);clear hr hx));rotate_left)
  | (first|((with_reducible refine is_load (T:=51) ?_);(first|(refine wl_load 0 HF.out rfl rfl Tryz.underlying51 rfl tyS rfl ?_))))
  | (first|((with_reducible refine is_store (T:=51) ?_);(first|(refine wl_store 0 HF.out tyS rfl rfl rfl rfl rfl (z4 rfl) (by repeat' (first|exact z3 _|refine z2 ?_ ?_|rfl|exact HF.out.rowOne 1 rfl|exact HF.out.rowOne 2 rfl)) ?_));intro W1 HF1;simp only [setL,z0,z1]at HF1;replace HF:=hid HF1;clear HF1)))
 all_goals first|(exact⟨rfl,HR.out,.inr ⟨_,HX.out,rfl⟩⟩)|skip
 have HV:=(HF.out.close (k:=1) rfl).close (k:=2) rfl
 refine bodyPost_ret (Fr.fm_results2 0 HF.out Tryz.results150 rfl rfl Tryz.underlying51 rfl tyS rfl rfl) rfl ?_
 exact⟨Fr.PF.rd HF.out,.inl ⟨_,_,_,HX.out,Fr.PF.ps HF.out,rfl,.inl ⟨_,_,_,_,_,_,_,_,_,_,rfl,rfl,(by simp only [Tr.stD,Tr.exDs];rfl),HV.out 1 rfl,Fr.is_nil 1,HV.out 0 rfl⟩⟩⟩
theorem stat_case(en:Int)(n:Nat)(r:Tr.Rc)(hC:Fr.CR en n r)(hE:Fr.CV 147 en n (exprP en r) Tr.VEx)(hDs:Fr.CV 189 en n (Tr.designP en r) Tr.VEx)(w:World)(B bp:Nat)(l:List Tr.Tok)(hl:l.length≤n)(hp:Tr.PS w B bp en l)(h1:Tr.isN l=false)(h2:Tr.isS [73,70] l=false)(h3:Tr.isS [87,72,73,76,69] l=false)(h4:Tr.isS [67,65,83,69] l=true):Calls Tryz.prog 150 #[.pointer (some ⟨bp,0,none⟩)] w (Tr.Res w B bp en (statO en r l) (Fr.VSo w.heap.size)):=by
 obtain⟨X,hX⟩:∃ X,X=statO en r l:=⟨_,rfl⟩
 rw [show statO en r l=X from hX.symm]
 unfold statO at hX
 have HX:=hid hX
 have HB:RowKit.Hid (B≤w.heap.size):=hp.size
 have HF:=hid (pf_start hp)
 have HL:=hid (show l.length+0≤l.length from Nat.le_refl _)
 have HN:=hid hl
 have HLEN:=hid hp.len
 have HC:=hid hC
 have HE:=hid hE
 have HDs:=hid hDs
 clear hC hE hDs
 have HT1:=hid h1
 have HT2:=hid h2
 have HT3:=hid h3
 have HT4:=hid h4
 clear h1 h2 h3 h4
 have hfl0:=fld_tok0
 have hfl1:=fld_tok1
 have hfl3:=fld_tok3
 clear hX hp hl
 go_enter Tryz.func150,Tryz.ntmps150
 go_wp2_with (first
  | ((with_reducible refine is_alloc (dst:=some 2) ?_);(first|(refine wl_alloc HF.out tyS ?_));intro b2 W1 HF1;replace HF:=hid HF1;clear HF1)
  | (go_at_call 97;(with_reducible refine(Fr.peek_split _ B bp en _ HF.out.kp).mono ?_);rintro e W1 ⟨hb,kd,t2,n2,q2,hpk,hq,rfl,⟨hn,rfl⟩|⟨hn,h1,h2⟩⟩;subst hq;(focus((exact absurd (hn.symm.trans HT1.out) (by decide))));rotate_left;(focus(subst hq;first|(exact absurd (hn.symm.trans HT1.out) (by decide))|(exact absurd (hn.symm.trans HT2.out) (by decide))|(exact absurd (hn.symm.trans HT3.out) (by decide))|(exact absurd (hn.symm.trans HT4.out) (by decide))|((try simp only [hn,↓reduceIte,Fr.bB]at HX);replace HF:=hid (HF.out.below hb);clear hb hpk)));rotate_left)
  | (go_at_call 100;(with_reducible refine(Fr.took_split _ B bp en _ _ HF.out.kp).mono ?_);rintro e W1 ⟨hr,⟨hs,rfl,hps⟩|⟨hs,rfl,hps⟩⟩;(focus(first|(exact absurd (hs.symm.trans HT2.out) (by decide))|(exact absurd (hs.symm.trans HT3.out) (by decide))|((try simp only [hs,↓reduceIte,Fr.bB]at HX);replace HF:=hid (Fr.PF.call HB.out HF.out hr hps);replace HL:=hid (Fr.tail_add hs HL.out);clear hr hps hs)));rotate_left;(focus(first|(exact absurd (hs.symm.trans HT4.out) (by decide))|((try simp only [hs,↓reduceIte,Fr.bB]at HX);replace HF:=hid (Fr.PF.call HB.out HF.out hr hps);clear hr hps hs)));rotate_left)
  | (first|((with_reducible refine is_store (T:=3) ?_);(first|((refine wl_store1 0 HF.out tyInt rfl rfl rfl rfl rfl ?_ ?_);(focus(rfl))));intro W1 HF1;simp only [setL,z0,z1]at HF1;replace HF:=hid HF1;clear HF1))
  | (go_at_call 191;(with_reducible refine(cases_any en n r HC.out HE.out w _ B bp _ l.length (Tr.posOf en l) _ HB.out (by have h1:=HL.out;have h2:=HN.out;(try have h3:=HM.out);omega) (by simp) HF.out).mono ?_);rintro e W1 (⟨st,l1,k0,nm,v2,v3,v4,d2,d3,d4,p0,hx,rfl,hf,hd⟩|⟨q,hx,rfl,hr⟩);(focus(replace HX:=hid (HX.out.trans hx);replace HF:=hid hf;clear hx hf));rotate_left;(focus(replace HX:=hid (HX.out.trans hx);have HR:=hid hr;clear hx hr));rotate_left)
  | (first|((with_reducible refine is_load (T:=51) ?_);(first|(refine wl_load 0 HF.out rfl rfl Tryz.underlying51 rfl tyS rfl ?_))))
  | (first|((with_reducible refine is_store (T:=51) ?_);(first|(refine wl_store 0 HF.out tyS rfl rfl rfl rfl rfl (z4 rfl) oT ?_));intro W1 HF1;simp only [setL,z0,z1]at HF1;replace HF:=hid HF1;clear HF1)))
 all_goals first|(exact⟨rfl,HR.out,.inr ⟨_,HX.out,rfl⟩⟩)|skip
 refine bodyPost_ret (Fr.fm_results2 0 HF.out Tryz.results150 rfl rfl Tryz.underlying51 rfl tyS rfl rfl) rfl ?_
 exact⟨Fr.PF.rd HF.out,.inl ⟨_,_,_,HX.out,Fr.PF.ps HF.out,rfl,.inl ⟨_,_,_,_,_,_,_,_,_,_,rfl,rfl,hd,HF.out.out 0 rfl,HF.out.out 1 rfl,HF.out.out 2 rfl⟩⟩⟩
theorem stat_repeat(en:Int)(n:Nat)(r:Tr.Rc)(hC:Fr.CR en n r)(hE:Fr.CV 147 en n (exprP en r) Tr.VEx)(hDs:Fr.CV 189 en n (Tr.designP en r) Tr.VEx)(w:World)(B bp:Nat)(l:List Tr.Tok)(hl:l.length≤n)(hp:Tr.PS w B bp en l)(h1:Tr.isN l=false)(h2:Tr.isS [73,70] l=false)(h3:Tr.isS [87,72,73,76,69] l=false)(h4:Tr.isS [67,65,83,69] l=false)(h5:Tr.isS [82,69,80,69,65,84] l=true):Calls Tryz.prog 150 #[.pointer (some ⟨bp,0,none⟩)] w (Tr.Res w B bp en (statO en r l) (Fr.VSo w.heap.size)):=by
 obtain⟨X,hX⟩:∃ X,X=statO en r l:=⟨_,rfl⟩
 rw [show statO en r l=X from hX.symm]
 unfold statO at hX
 have HX:=hid hX
 have HB:RowKit.Hid (B≤w.heap.size):=hp.size
 have HF:=hid (pf_start hp)
 have HL:=hid (show l.length+0≤l.length from Nat.le_refl _)
 have HN:=hid hl
 have HLEN:=hid hp.len
 have HC:=hid hC
 have HE:=hid hE
 have HDs:=hid hDs
 clear hC hE hDs
 have HT1:=hid h1
 have HT2:=hid h2
 have HT3:=hid h3
 have HT4:=hid h4
 have HT5:=hid h5
 clear h1 h2 h3 h4 h5
 have hfl0:=fld_tok0
 have hfl1:=fld_tok1
 have hfl3:=fld_tok3
 clear hX hp hl
 go_enter Tryz.func150,Tryz.ntmps150
 go_wp2_with (first
  | ((with_reducible refine is_alloc (dst:=some 2) ?_);(first|(refine wl_alloc HF.out tyS ?_));intro b2 W1 HF1;replace HF:=hid HF1;clear HF1)
  | (go_at_call 97;(with_reducible refine(Fr.peek_split _ B bp en _ HF.out.kp).mono ?_);rintro e W1 ⟨hb,kd,t2,n2,q2,hpk,hq,rfl,⟨hn,rfl⟩|⟨hn,h1,h2⟩⟩;subst hq;(focus((exact absurd (hn.symm.trans HT1.out) (by decide))));rotate_left;(focus(subst hq;first|(exact absurd (hn.symm.trans HT1.out) (by decide))|(exact absurd (hn.symm.trans HT2.out) (by decide))|(exact absurd (hn.symm.trans HT3.out) (by decide))|(exact absurd (hn.symm.trans HT4.out) (by decide))|(exact absurd (hn.symm.trans HT5.out) (by decide))|((try simp only [hn,↓reduceIte,Fr.bB]at HX);replace HF:=hid (HF.out.below hb);clear hb hpk)));rotate_left)
  | (go_at_call 100;(with_reducible refine(Fr.took_split _ B bp en _ _ HF.out.kp).mono ?_);rintro e W1 ⟨hr,⟨hs,rfl,hps⟩|⟨hs,rfl,hps⟩⟩;(focus(first|(exact absurd (hs.symm.trans HT2.out) (by decide))|(exact absurd (hs.symm.trans HT3.out) (by decide))|(exact absurd (hs.symm.trans HT4.out) (by decide))|((try simp only [hs,↓reduceIte,Fr.bB]at HX);replace HF:=hid (Fr.PF.call HB.out HF.out hr hps);replace HL:=hid (Fr.tail_add hs HL.out);clear hr hps hs)));rotate_left;(focus(first|(exact absurd (hs.symm.trans HT5.out) (by decide))|((try simp only [hs,↓reduceIte,Fr.bB]at HX);replace HF:=hid (Fr.PF.call HB.out HF.out hr hps);clear hr hps hs)));rotate_left)
  | (first|((with_reducible refine is_store (T:=3) ?_);(first|((refine wl_store1 0 HF.out tyInt rfl rfl rfl rfl rfl ?_ ?_);(focus(rfl))));intro W1 HF1;simp only [setL,z0,z1]at HF1;replace HF:=hid HF1;clear HF1))
  | (go_at_call 104;(with_reducible refine(HC.out.st _ B bp _ (by have h1:=HL.out;have h2:=HN.out;(try have h3:=HM.out);omega) HF.out.kp).mono ?_);rintro e W1 ⟨hr,⟨ss,l1,v,hx,hps,rfl,hV⟩|⟨q,hx,rfl⟩⟩;(focus(have hd0:=hV;(try simp only [hx,↓reduceIte,Fr.bB]at HX);replace HL:=hid (Fr.suf_add (HC.out.ce.rg.st _) hx HL.out);have HF2:=Fr.PF.call HB.out HF.out hr hps;replace HF2:=Fr.Fm.since HF.out HF2 hd0;replace HF:=hid HF2;clear HF2 hr hps hx hd0));rotate_left;(focus((try simp only [hx,↓reduceIte,Fr.bB]at HX);have HR:=hid (rd_trans HF.out.gr hr);clear hr hx));rotate_left)
  | ((with_reducible refine Fr.is_lit (T:=49) ?_);(refine Fr.wl_lit1 HF.out Tryz.underlying49 Fr.tySS (by simp) (by simp) rfl (Fr.cells_one (HF.out.da 0 _ _ rfl).one) rfl [.list 6 (Tr.stDs ss)] ?_ ?_);(focus(repeat' (first|exact Da.row_nil _ _|exact HF.out.da 0 _ _ rfl|refine Da.row_cons ?_ ?_)));intro b1 W1 HF1;replace HF:=hid HF1;clear HF1)
  | (first|((with_reducible refine is_store (T:=49) ?_);(first|((refine wl_store1 0 HF.out Fr.tySSS rfl rfl rfl rfl rfl ?_ ?_);(focus(rfl))));intro W1 HF1;simp only [setL,z0,z1]at HF1;replace HF:=hid HF1;clear HF1)|((with_reducible refine is_store (T:=47) ?_);(first|((refine wl_store1 0 HF.out Fr.tySE rfl rfl rfl rfl rfl ?_ ?_);(focus(rfl))));intro W1 HF1;simp only [setL,z0,z1]at HF1;replace HF:=hid HF1;clear HF1))
  | (go_at_call 147;(with_reducible refine(HE.out _ B bp _ (by have h1:=HL.out;have h2:=HN.out;(try have h3:=HM.out);omega) HF.out.kp).mono ?_);rintro e W1 ⟨hr,⟨ta,l1,v,hx,hps,rfl,hV⟩|⟨q,hx,rfl⟩⟩;(focus(obtain⟨k0,n0,tx0,op0,xs0,p0,va,rfl,hD,hdp,hd0⟩:=Fr.VEx.parts hV;(try simp only [hx,↓reduceIte,Fr.bB]at HX);replace HL:=hid (Fr.con_add (Tr.con_expr en HC.out.ce.rg _) hx HL.out);have HF2:=Fr.PF.call HB.out HF.out hr hps;replace HF2:=Fr.Fm.since HF.out HF2 hd0;replace HF:=hid HF2;clear HF2 hr hps hx hd0));rotate_left;(focus((try simp only [hx,↓reduceIte,Fr.bB]at HX);have HR:=hid (rd_trans HF.out.gr hr);clear hr hx));rotate_left)
  | ((with_reducible refine Fr.is_lit (T:=47) ?_);(refine Fr.wl_lit1 HF.out Tryz.underlying47 Fr.tyE (by simp) (by simp) rfl rfl rfl (Tr.exD ta) ?_ ?_);(focus(rw [hD];(repeat' (first|exact Da.row_nil _ _|exact Da.Is.int _|exact Da.Is.str _|exact HF.out.da 0 _ _ rfl|refine Da.row_cons ?_ ?_))));intro b W1 HF1;replace HF:=hid HF1;clear HF1)
  | (go_at_call 98;(with_reducible refine(skip_any _ B bp en _ _ HF.out.kp).mono ?_);rintro e W1 ⟨hr,⟨_,l2,v,hx,hps,rfl,rfl⟩|⟨q,hx,rfl⟩⟩;(focus((try simp only [hx,↓reduceIte,Fr.bB]at HX);replace HL:=hid (Fr.con_add (Tr.con_skip en _ _) hx HL.out);replace HF:=hid (Fr.PF.call HB.out HF.out hr hps);clear hr hps hx));rotate_left;(focus((try simp only [hx,↓reduceIte,Fr.bB]at HX);have HR:=hid (rd_trans HF.out.gr hr);clear hr hx));rotate_left)
  | (first|((with_reducible refine is_load (T:=51) ?_);(first|(refine wl_load 0 HF.out rfl rfl Tryz.underlying51 rfl tyS rfl ?_))))
  | (first|((with_reducible refine is_store (T:=51) ?_);(first|(refine wl_store 0 HF.out tyS rfl rfl rfl rfl rfl (z4 rfl) oT ?_));intro W1 HF1;simp only [setL,z0,z1]at HF1;replace HF:=hid HF1;clear HF1)))
 all_goals first|(exact⟨rfl,HR.out,.inr ⟨_,HX.out,rfl⟩⟩)|skip
 refine bodyPost_ret (Fr.fm_results2 0 HF.out Tryz.results150 rfl rfl Tryz.underlying51 rfl tyS rfl rfl) rfl ?_
 exact⟨Fr.PF.rd HF.out,.inl ⟨_,_,_,HX.out,Fr.PF.ps HF.out,rfl,.inl ⟨_,_,_,_,_,_,_,_,_,_,rfl,rfl,(by simp only [Tr.stD,Tr.exDs,Tr.blDs];rfl),HF.out.out 0 rfl,Fr.is_nil 1,HF.out.out 2 rfl⟩⟩⟩
theorem stat_for(en:Int)(n:Nat)(r:Tr.Rc)(hC:Fr.CR en n r)(hE:Fr.CV 147 en n (exprP en r) Tr.VEx)(hDs:Fr.CV 189 en n (Tr.designP en r) Tr.VEx)(w:World)(B bp:Nat)(l:List Tr.Tok)(hl:l.length≤n)(hp:Tr.PS w B bp en l)(h1:Tr.isN l=false)(h2:Tr.isS [73,70] l=false)(h3:Tr.isS [87,72,73,76,69] l=false)(h4:Tr.isS [67,65,83,69] l=false)(h5:Tr.isS [82,69,80,69,65,84] l=false)(h6:Tr.isS [70,79,82] l=true):Calls Tryz.prog 150 #[.pointer (some ⟨bp,0,none⟩)] w (Tr.Res w B bp en (statO en r l) (Fr.VSo w.heap.size)):=by
 obtain⟨X,hX⟩:∃ X,X=statO en r l:=⟨_,rfl⟩
 rw [show statO en r l=X from hX.symm]
 unfold statO at hX
 have HX:=hid hX
 have HB:RowKit.Hid (B≤w.heap.size):=hp.size
 have HF:=hid (pf_start hp)
 have HL:=hid (show l.length+0≤l.length from Nat.le_refl _)
 have HN:=hid hl
 have HLEN:=hid hp.len
 have HC:=hid hC
 have HE:=hid hE
 have HDs:=hid hDs
 clear hC hE hDs
 have HT1:=hid h1
 have HT2:=hid h2
 have HT3:=hid h3
 have HT4:=hid h4
 have HT5:=hid h5
 have HT6:=hid h6
 clear h1 h2 h3 h4 h5 h6
 have hfl0:=fld_tok0
 have hfl1:=fld_tok1
 have hfl3:=fld_tok3
 clear hX hp hl
 go_enter Tryz.func150,Tryz.ntmps150
 go_wp2_with (first
  | ((with_reducible refine is_alloc (dst:=some 2) ?_);(first|(refine wl_alloc HF.out tyS ?_));intro b2 W1 HF1;replace HF:=hid HF1;clear HF1)
  | (go_at_call 97;(with_reducible refine(Fr.peek_split _ B bp en _ HF.out.kp).mono ?_);rintro e W1 ⟨hb,kd,t2,n2,q2,hpk,hq,rfl,⟨hn,rfl⟩|⟨hn,h1,h2⟩⟩;subst hq;(focus((exact absurd (hn.symm.trans HT1.out) (by decide))));rotate_left;(focus(subst hq;first|(exact absurd (hn.symm.trans HT1.out) (by decide))|(exact absurd (hn.symm.trans HT2.out) (by decide))|(exact absurd (hn.symm.trans HT3.out) (by decide))|(exact absurd (hn.symm.trans HT4.out) (by decide))|(exact absurd (hn.symm.trans HT5.out) (by decide))|(exact absurd (hn.symm.trans HT6.out) (by decide))|((try simp only [hn,↓reduceIte,Fr.bB]at HX);replace HF:=hid (HF.out.below hb);clear hb hpk)));rotate_left)
  | (go_at_call 100;(with_reducible refine(Fr.took_split _ B bp en _ _ HF.out.kp).mono ?_);rintro e W1 ⟨hr,⟨hs,rfl,hps⟩|⟨hs,rfl,hps⟩⟩;(focus(first|(exact absurd (hs.symm.trans HT2.out) (by decide))|(exact absurd (hs.symm.trans HT3.out) (by decide))|(exact absurd (hs.symm.trans HT4.out) (by decide))|(exact absurd (hs.symm.trans HT5.out) (by decide))|((try simp only [hs,↓reduceIte,Fr.bB]at HX);replace HF:=hid (Fr.PF.call HB.out HF.out hr hps);replace HL:=hid (Fr.tail_add hs HL.out);clear hr hps hs)));rotate_left;(focus(first|(exact absurd (hs.symm.trans HT6.out) (by decide))|((try simp only [hs,↓reduceIte,Fr.bB]at HX);replace HF:=hid (Fr.PF.call HB.out HF.out hr hps);clear hr hps hs)));rotate_left)
  | (first|((with_reducible refine is_store (T:=3) ?_);(first|((refine wl_store1 0 HF.out tyInt rfl rfl rfl rfl rfl ?_ ?_);(focus(rfl))));intro W1 HF1;simp only [setL,z0,z1]at HF1;replace HF:=hid HF1;clear HF1))
  | (go_at_call 192;(with_reducible refine(for_any en n r HC.out HE.out w _ B bp _ (Tr.posOf en l) _ HB.out (by have h1:=HL.out;have h2:=HN.out;(try have h3:=HM.out);omega) HF.out).mono ?_);rintro e W1 (⟨st,l1,k0,nm,v2,v3,v4,d2,d3,d4,p0,hx,rfl,hf,hd⟩|⟨q,hx,rfl,hr⟩);(focus(replace HX:=hid (HX.out.trans hx);replace HF:=hid hf;clear hx hf));rotate_left;(focus(replace HX:=hid (HX.out.trans hx);have HR:=hid hr;clear hx hr));rotate_left)
  | (first|((with_reducible refine is_load (T:=51) ?_);(first|(refine wl_load 0 HF.out rfl rfl Tryz.underlying51 rfl tyS rfl ?_))))
  | (first|((with_reducible refine is_store (T:=51) ?_);(first|(refine wl_store 0 HF.out tyS rfl rfl rfl rfl rfl (z4 rfl) oT ?_));intro W1 HF1;simp only [setL,z0,z1]at HF1;replace HF:=hid HF1;clear HF1)))
 all_goals first|(exact⟨rfl,HR.out,.inr ⟨_,HX.out,rfl⟩⟩)|skip
 refine bodyPost_ret (Fr.fm_results2 0 HF.out Tryz.results150 rfl rfl Tryz.underlying51 rfl tyS rfl rfl) rfl ?_
 exact⟨Fr.PF.rd HF.out,.inl ⟨_,_,_,HX.out,Fr.PF.ps HF.out,rfl,.inl ⟨_,_,_,_,_,_,_,_,_,_,rfl,rfl,hd,HF.out.out 0 rfl,HF.out.out 1 rfl,HF.out.out 2 rfl⟩⟩⟩
theorem stat_any(en:Int)(n:Nat)(r:Tr.Rc)(hC:Fr.CR en n r)(hE:Fr.CV 147 en n (exprP en r) Tr.VEx)(hDs:Fr.CV 189 en n (Tr.designP en r) Tr.VEx):Fr.CV 150 en n (statO en r) Fr.VSo:=by
 intro w B bp l hl hp
 cases h1:Tr.isN l with
 | true=>exact stat_name en n r hC hE hDs w B bp l hl hp h1
 | false =>
  cases h2:Tr.isS [73,70] l with
  | true=>exact stat_if en n r hC hE hDs w B bp l hl hp h1 h2
  | false =>
   cases h3:Tr.isS [87,72,73,76,69] l with
   | true=>exact stat_while en n r hC hE hDs w B bp l hl hp h1 h2 h3
   | false =>
    cases h4:Tr.isS [67,65,83,69] l with
    | true=>exact stat_case en n r hC hE hDs w B bp l hl hp h1 h2 h3 h4
    | false =>
     cases h5:Tr.isS [82,69,80,69,65,84] l with
     | true=>exact stat_repeat en n r hC hE hDs w B bp l hl hp h1 h2 h3 h4 h5
     | false =>
      cases h6:Tr.isS [70,79,82] l with
      | true=>exact stat_for en n r hC hE hDs w B bp l hl hp h1 h2 h3 h4 h5 h6
      | false =>
       exact stat_none en n r hC hE hDs w B bp l hl hp h1 h2 h3 h4 h5 h6
namespace Fr
open Da Tr
theorem stDs_snoc(xs:List St)(x:St):stDs (xs++[x])=stDs xs++[stD x]:=by rw [stDs_map,stDs_map,List.map_append];rfl
theorem stDs_len(xs:List St):(stDs xs).length=xs.length:=by rw [stDs_map,List.length_map]
theorem cnt_stat{en:Int}{r:Rc}(hr:Rg r)(l:List Tok)(o:Option St)(l1:List Tok)(h:statO en r l=.ok o l1):([o].filterMap id).length+l1.length≤l.length:=by
 obtain⟨⟨t,e⟩,h2⟩:=stat_passes en hr l o l1 h
 cases o with
 | none=>rw [e];simp
 | some s =>
  obtain⟨x,t',e'⟩:=h2 (by simp)
  rw [e'];simp;omega
end Fr
theorem stats_any(en:Int)(n:Nat)(r:Tr.Rc)(hC:Fr.CR en n r)(hSt:Fr.CV 150 en n (statO en r) Fr.VSo):Fr.CV 104 en n (Tr.statsP en r) Fr.VSts:=by
 intro w B bp l hl hp
 obtain⟨X,hX⟩:∃ X,X=Tr.statsP en r l:=⟨_,rfl⟩
 rw [show Tr.statsP en r l=X from hX.symm]
 unfold Tr.statsP at hX
 have HX:=hid hX
 have HB:RowKit.Hid (B≤w.heap.size):=hp.size
 have HF:=hid (pf_start hp)
 have HL:=hid (show l.length+0≤l.length from Nat.le_refl _)
 have HN:=hid hl
 have HC:=hid hC
 have HSt:=hid hSt
 have hlen:=hp.len
 clear hC hSt
 have hfl0:=fld_tok0
 have hfl1:=fld_tok1
 have hfl3:=fld_tok3
 clear hX hp hl
 obtain⟨Y,hY⟩:∃ Y,Y=Tr.manyC [59] (statO en r) (l.length+1) l:=⟨_,rfl⟩
 have HX1:=HX.out
 rw [← hY]at HX1
 replace HX:=hid HX1
 clear HX1
 rw [Tr.loopx_start]at hY
 go_enter Tryz.func104,Tryz.ntmps104
 go_wp2
 have HY:=hid (show Y=Tr.LoopX [59] (statO en r) [] true l l.length∧l.length≤l.length∧l.length+0≤l.length∧(([]:List (Option Tr.St)).filterMap id).length+l.length≤6000∧(true=true∨([]:List (Option Tr.St)) ≠ [])from⟨hY,Nat.le_refl _,Nat.le_refl _,by simpa using hlen,.inl rfl⟩)
 clear hY
 try simp only [Act.put,zA,z0,z1]
 go_loopg [3,4] (Tr.meas true l) (fun g v3 v4 wr=>∃(acc:List (Option Tr.St)) (more:Bool) (lc:List Tr.Tok) (fu:Nat),g=Tr.meas more lc∧v4=.bool more∧RowKit.Hid (Fr.PF w B bp en lc wr [.row v3 51 6 (Tr.stDs (acc.filterMap id))] [])∧RowKit.Hid (Y=Tr.LoopX [59] (statO en r) acc more lc fu∧lc.length≤fu∧lc.length+0≤l.length∧(acc.filterMap id).length+lc.length≤6000∧(more=true∨acc ≠ [])))
 case atStart=>exact⟨[],true,l,l.length,rfl,rfl,hid (HF.out.own 51 6),HY⟩
 case round =>
  clear HF HY HL
  obtain⟨acc,more,lc,fu,hg,hm,HF,HY⟩:=hrel
  subst hm
  cases more with
  | false =>
   have HX1:=HX.out
   rw [HY.out.1,Tr.loopx_end,Fr.bind_ok]at HX1
   replace HX:=hid HX1
   clear HX1 hg HY
   go_wp2
   go_ret
   have HV:=HF.out.close (k:=0) rfl
   exact⟨Fr.PF.rd HF.out,.inl ⟨_,_,_,HX.out,Fr.PF.ps HF.out,rfl,HV.out 0 rfl⟩⟩
  | true =>
   have HG:=hid hg
   clear hg
   have HM:=hid (HY.out.2.2.1)
   have HL:=hid (show lc.length+0≤lc.length from Nat.le_refl _)
   obtain⟨Z,hZ⟩:∃ Z,Z=statO en r lc:=⟨_,rfl⟩
   have HZ:=hid hZ
   have HO:=HX
   replace HX:=hid hZ
   have HAc:=hid HY.out.2.2.2.1
   clear hZ
   go_wp2_with (first
    | (go_at_call 150;(with_reducible refine(HSt.out _ B bp _ (by have h1:=HL.out;have h2:=HN.out;(try have h3:=HM.out);omega) HF.out.kp).mono ?_);rintro e W1 ⟨hr,⟨ta,l1,v,hx,hps,rfl,(⟨st,k0,nm,v2,v3,v4,p0,d2,d3,d4,rfl,rfl,hd,h2,h3,h4⟩|⟨rfl,p0,rfl⟩)⟩|⟨q,hx,rfl⟩⟩;(focus((try simp only [hx,↓reduceIte,Fr.bB]at HX);replace HL:=hid (Fr.suf_add (Tr.suf_stat en HC.out.ce.rg _) hx HL.out);have HCn:=hid (Fr.cnt_stat HC.out.ce.rg _ _ _ hx);have HF2:=Fr.PF.call HB.out HF.out hr hps;replace HF2:=Fr.Fm.since HF.out HF2 h4;replace HF2:=Fr.Fm.since HF.out HF2 h3;replace HF2:=Fr.Fm.since HF.out HF2 h2;replace HF:=hid HF2;clear HF2 hr hps hx h2 h3 h4));rotate_left;(focus((try simp only [hx,↓reduceIte,Fr.bB]at HX);replace HL:=hid (Fr.suf_add (Tr.suf_stat en HC.out.ce.rg _) hx HL.out);have HCn:=hid (Fr.cnt_stat HC.out.ce.rg _ _ _ hx);replace HF:=hid (Fr.PF.call HB.out HF.out hr hps);clear hr hps hx));rotate_left;(focus((try simp only [hx,↓reduceIte,Fr.bB]at HX);have HR:=hid (rd_trans HF.out.gr hr);clear hr hx));rotate_left)
    | ((with_reducible refine is_alloc (dst:=some 5) ?_);(first|(refine wl_alloc HF.out tyS ?_));intro b5 W1 HF1;replace HF:=hid HF1;clear HF1)
    | (first|((with_reducible refine is_store (T:=51) ?_);(first|(refine wl_store 0 HF.out tyS rfl rfl rfl rfl rfl (z4 rfl) oT ?_));intro W1 HF1;simp only [setL,z0,z1]at HF1;replace HF:=hid HF1;clear HF1))
    | (first|((with_reducible refine is_load (T:=51) ?_);(first|(refine wl_load 0 HF.out rfl rfl Tryz.underlying51 rfl tyS rfl ?_))))
    | ((with_reducible refine Fr.is_lit ?_);(refine Fr.wl_lit1 HF.out Tryz.underlying28 tyS (by simp) (by simp) rfl rfl rfl (Tr.stD st) ?_ ?_);(focus(rw [hd];(repeat' (first|exact Da.row_nil _ _|exact Da.Is.int _|exact Da.Is.str _|(refine HF.out.isM ?_;simp;done)|refine Da.row_cons ?_ ?_))));intro b W1 HF1;replace HF:=hid HF1;clear HF1)
    | ((with_reducible refine Fr.is_append ?_);(refine Fr.wl_append 1 0 HF.out Tryz.underlying28 tyS (by simp) (by simp) rfl rfl rfl rfl rfl ?_ ?_);(focus(have h1:=HAc.out;have h2:=HCn.out;rw [Fr.stDs_len];simp at h2 ⊢;omega));intro v1 W1 HF1;simp only [setL,z0,z1]at HF1;replace HF:=hid HF1;clear HF1)
    | (go_at_call 100;(with_reducible refine(took_any _ B bp en _ [59] HF.out.kp).mono ?_);rintro e W1 ⟨rfl,hr,hps⟩;have HL0:=HL;replace HL:=hid (Fr.took_add [59] HL.out);replace HF:=hid (Fr.PF.call HB.out HF.out hr hps);clear hr hps))
   all_goals first|(exact⟨rfl,HR.out,.inr ⟨_,Fr.loop_no HO.out HY.out.1 (HZ.out ▸ HX.out),rfl⟩⟩)|skip
   ·skip
    obtain⟨fu',h1,h2,h3,h4,h5⟩:=Fr.loop_oko (w:=[59]) HY.out (HZ.out.symm.trans HX.out) (show l1.length≤lc.length by have:=HL0.out;omega) HCn.out
    go_roundg (Tr.meas (Tr.isS [59] l1) (Tr.took [59] l1).2)
    case rel=>exact⟨_,_,_,fu',rfl,rfl,hid (by rw [Fr.fm_some,Fr.stDs_snoc];exact HF.out.pick [1] [] (by decide) (by simp) (by simp)),hid ⟨h1,h2,h3,h4,h5⟩⟩
    case measure=>rw [HG.out];exact Fr.meas_le (show l1.length≤lc.length by have:=HL0.out;omega)
   ·skip
    obtain⟨fu',h1,h2,h3,h4,h5⟩:=Fr.loop_oko (w:=[59]) HY.out (HZ.out.symm.trans HX.out) (show l1.length≤lc.length by have:=HL0.out;omega) HCn.out
    go_roundg (Tr.meas (Tr.isS [59] l1) (Tr.took [59] l1).2)
    case rel=>exact⟨_,_,_,fu',rfl,rfl,hid (by rw [Fr.fm_none];exact HF.out.pick [1] [] (by decide) (by simp) (by simp)),hid ⟨h1,h2,h3,h4,h5⟩⟩
    case measure=>rw [HG.out];exact Fr.meas_le (show l1.length≤lc.length by have:=HL0.out;omega)
end Go.Proofs.YtlhmkfcbldghfaaGreatDoor
