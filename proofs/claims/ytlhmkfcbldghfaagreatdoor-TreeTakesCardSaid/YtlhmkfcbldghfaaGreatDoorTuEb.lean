/- The walk of tree's parser's typ,part 3. Conditions: the parser's block is as it is made;shorter texts are read as they should be. -/
import Derived.Test.YtlhmkfcbldghfaaGreatDoorTuEa
namespace Go.Proofs.YtlhmkfcbldghfaaGreatDoor
set_option linter.all false
open Go.Lib (hid)
set_option maxRecDepth 1000000
set_option maxHeartbeats 16000000
open Go.RowKit
open Fr (con_add is_store setL tyT wE wT)
open Tr (rd_trans)
theorem typ_record(en:Int)(n:Nat)(r:Tr.Rc)(hC:Fr.CR en n r)(hQ:Fr.CQ en)(hE:Fr.CV 147 en n (Tr.exprP en r) Tr.VEx)(w:World)(B bp:Nat)(l:List Tr.Tok)(hl:l.length≤n)(hp:Tr.PS w B bp en l)(h1:Tr.isS [65,82,82,65,89] l=false)(h2:Tr.isS [82,69,67,79,82,68] l=true)(h3:Tr.isS [40] l.tail=false):Calls Tryz.prog 148 #[.pointer (some ⟨bp,0,none⟩)] w (Tr.Res w B bp en (Tr.typP en r l) (Fr.VTy w.heap.size)):=by
 obtain⟨X,hX⟩:∃ X,X=Tr.typP en r l:=⟨_,rfl⟩
 rw [show Tr.typP en r l=X from hX.symm]
 unfold Tr.typP at hX
 have HX:=hid hX
 have HB:RowKit.Hid (B≤w.heap.size):=hp.size
 have HF:=hid (Fr.pf_start hp)
 have HL:=hid (show l.length+0≤l.length from Nat.le_refl _)
 have HN:=hid hl
 have HC:=hid hC
 have HQ:=hid hQ
 have HE:=hid hE
 clear hC hQ hE
 have HT1:=hid h1
 have HT2:=hid h2
 have HT3:=hid h3
 clear h1 h2 h3
 have hfl0:=Fr.fld_tok0
 have hfl1:=Fr.fld_tok1
 have hfl3:=Fr.fld_tok3
 clear hX hp hl
 go_enter Tryz.func148,Tryz.ntmps148
 go_wp2_with (first|((with_reducible refine Fr.is_alloc (dst:=some 2) ?_);(first|(refine Fr.wl_alloc HF.out tyT ?_));intro b2 W1 HF1;replace HF:=hid HF1;clear HF1)|((with_reducible refine Fr.is_alloc (dst:=some 3) ?_);(first|(refine Fr.wl_alloc HF.out tyT ?_));intro b3 W1 HF1;replace HF:=hid HF1;clear HF1)|(first|((with_reducible refine is_store (T:=123) ?_);((refine Fr.wl_store 0 HF.out tyT rfl rfl rfl rfl rfl (z4 rfl) oT ?_));intro W1 HF1;simp only [setL,z0,z1]at HF1;replace HF:=hid HF1;clear HF1))|(first|((with_reducible refine is_store (T:=3) ?_);(first|((refine Fr.wl_store1 0 HF.out Fr.tyInt rfl rfl rfl rfl rfl ?_ ?_);(focus(rfl))));intro W1 HF1;simp only [setL,z0,z1]at HF1;replace HF:=hid HF1;clear HF1))|(go_at_call 97;(with_reducible refine(Fr.peek_split _ B bp en _ HF.out.kp).mono ?_);rintro e W1 ⟨hb,kd,t2,n2,q2,hpk,hq,rfl,-⟩;(try simp only [hq,↓reduceIte,Fr.bB]at HX);replace HF:=hid (HF.out.below hb);clear hb hpk hq)|(go_at_call 100;(with_reducible refine(Fr.took_split _ B bp en _ _ HF.out.kp).mono ?_);rintro e W1 ⟨hr,⟨hs,rfl,hps⟩|⟨hs,rfl,hps⟩⟩;(focus(first|(exact absurd (hs.symm.trans HT1.out) (by decide))|(exact absurd (hs.symm.trans HT3.out) (by decide))|((try simp only [hs,↓reduceIte,Fr.bB]at HX);replace HF:=hid (Fr.PF.call HB.out HF.out hr hps);replace HL:=hid (Fr.tail_add hs HL.out);clear hr hps hs)));rotate_left;(focus(first|(exact absurd (hs.symm.trans HT2.out) (by decide))|((try simp only [hs,↓reduceIte,Fr.bB]at HX);replace HF:=hid (Fr.PF.call HB.out HF.out hr hps);clear hr hps hs)));rotate_left))
 all_goals first|(exact⟨rfl,HR.out,.inr ⟨_,HX.out,rfl⟩⟩)|skip
 ·obtain⟨Y,hY⟩:∃ Y,Y=Tr.manyC [59] (Tr.fieldsP en r) (l.length+1) l.tail:=⟨_,rfl⟩
  have HX1:=HX.out
  rw [← hY]at HX1
  replace HX:=hid HX1
  clear HX1
  rw [Tr.loopx_start]at hY
  have hlen:=HF.out.kp.len
  have hle:l.tail.length≤l.length:=by have:=HL.out;omega
  have hlc:l.tail.length+(0+1)≤l.length:=by have:=HL.out;omega
  have HY:=hid (show Y=Tr.LoopX [59] (Tr.fieldsP en r) [] true l.tail l.length∧l.tail.length≤l.length∧l.tail.length+(0+1)≤l.length∧([]:List (List (List UInt8 × Bool × Tr.Ty × Int))).flatten.length+l.tail.length≤6000∧(true=true∨([]:List (List (List UInt8 × Bool × Tr.Ty × Int))) ≠ [])from⟨hY,hle,hlc,by simpa using hlen,.inl rfl⟩)
  clear hY
  try simp only [Act.put,zA,z0,z1]
  go_loopg [5] (Tr.meas true l.tail) (fun g v5 wr=>∃(acc:List (List (List UInt8 × Bool × Tr.Ty × Int))) (more:Bool) (lc:List Tr.Tok) (fu:Nat) (vl:Value),g=Tr.meas more lc∧v5=.bool more∧RowKit.Hid (Fr.PF w B bp en lc wr [.blk b3 (Fr.cTy 3 [] [] (.slice none 0 0) (.slice none 0 0) (.slice none 0 0) vl (.slice none 0 0) (.slice none 0 0) q2),.row vl 129 13 (Tr.fdDs acc.flatten),.blk b2 Fr.zT] [])∧RowKit.Hid (Y=Tr.LoopX [59] (Tr.fieldsP en r) acc more lc fu∧lc.length≤fu∧lc.length+(0+1)≤l.length∧acc.flatten.length+lc.length≤6000∧(more=true∨acc ≠ [])))
  case atStart=>exact⟨[],true,l.tail,l.length,.slice none 0 0,rfl,rfl,hid ((HF.out.own 129 13).pick [1,0,2] [] (by decide) (by simp) (by simp)),HY⟩
  case round =>
   clear HF HY HL
   obtain⟨acc,more,lc,fu,vl,hg,hm,HF,HY⟩:=hrel
   subst hm
   cases more with
   | false =>
    have HX1:=HX.out
    rw [HY.out.1,Tr.loopx_end,Fr.bind_ok]at HX1
    replace HX:=hid HX1
    have HL:=hid HY.out.2.2.1
    clear HX1 hg HY
    go_wp2_with (first|(first|((with_reducible refine is_store (T:=123) ?_);((refine Fr.wl_store 2 HF.out tyT rfl rfl rfl rfl rfl (z4 rfl) (by repeat' (first|exact z3 _|refine z2 ?_ ?_|rfl|exact HF.out.rowOne 1 rfl)) ?_));intro W1 HF1;simp only [setL,z0,z1]at HF1;replace HF:=hid HF1;clear HF1))|(first|((with_reducible refine Fr.is_load (T:=123) ?_);(first|(refine Fr.wl_load 0 HF.out rfl rfl Tryz.underlying123 rfl tyT rfl ?_))))|(go_at_call 98;(with_reducible refine(skip_any _ B bp en _ _ HF.out.kp).mono ?_);rintro e W1 ⟨hr,⟨_,l1,v,hx,hps,rfl,rfl⟩|⟨q,hx,rfl⟩⟩;(focus((try simp only [hx,↓reduceIte,Fr.bB]at HX);replace HL:=hid (con_add (Tr.con_skip en _ _) hx HL.out);replace HF:=hid (Fr.PF.call HB.out HF.out hr hps);clear hr hps hx));rotate_left;(focus((try simp only [hx,↓reduceIte,Fr.bB]at HX);have HR:=hid (rd_trans HF.out.gr hr);clear hr hx));rotate_left))
    all_goals first|(exact⟨rfl,HR.out,.inr ⟨_,HX.out,rfl⟩⟩)|skip
    replace HF:=hid (HF.out.close (k:=1) rfl)
    refine bodyPost_ret (Fr.fm_results 2 HF.out Tryz.results148 rfl rfl Tryz.underlying123 rfl tyT rfl) rfl ?_
    refine⟨Fr.PF.rd HF.out,.inl ⟨_,_,_,HX.out,Fr.PF.ps HF.out,rfl,_,rfl,?_⟩⟩
    first|(rw [hD];(repeat' (exact Da.row_nil _ _));done)|(simp only [Tr.tyD,Tr.exDs,Tr.tyDs,Tr.fdDs];(repeat' (first|exact Da.row_nil _ _|exact Da.Is.int _|exact Da.Is.str _|exact Fr.is_nil _|exact HF.out.out 0 rfl|refine Da.row_cons ?_ ?_)))
   | true =>
    have HG:=hid hg
    clear hg
    have HM:=hid (HY.out.2.2.1)
    have HL:=hid (show lc.length+0≤lc.length from Nat.le_refl _)
    obtain⟨Z,hZ⟩:∃ Z,Z=Tr.fieldsP en r lc:=⟨_,rfl⟩
    have HZ:=hid hZ
    have HO:=HX
    replace HX:=hid hZ
    have HAc:=hid HY.out.2.2.2.1
    clear hZ
    go_wp2
    all_goals first|(exact⟨rfl,HR.out,.inr ⟨_,Fr.loop_no HO.out HY.out.1 (HZ.out ▸ HX.out),rfl⟩⟩)|skip
    replace HF:=hid HF.out.drew
    refine wp_region_G (UpTo 6 (fun X=>b3<X.heap.size∧X.cell? ⟨b3,6,none⟩=some vl)) 7 (by kernel_rfl) (by kernel_rfl) (fun _=>⟨HF.out.ltAt 0 rfl,HF.out.cellAt 0 rfl 6 rfl⟩) (fun _ hS=>?_)
    generalize World.drew _=W1 at HF hS ⊢
    refine Fr.tkM (n:=7) (is:=[0]) (k:=1) rfl (by kernel_rfl) hS ?_
    repeat(refine wT (v:=?_) rfl (by rfl) (fun X xb=>?_) ?_;rotate_left 1;(focus(go_simp;try with_reducible rfl));try simp only [Act.put,zA,z0,z1])
    refine wE fun hS=>?_
    refine Fr.tkB (n:=7) (is:=[1]) [[1]] (k:=1) rfl (by kernel_rfl) hS ?_
    repeat(refine wT (v:=?_) rfl (by rfl) (fun X xb=>?_) ?_;rotate_left 1;(focus(go_simp;try with_reducible rfl));try simp only [Act.put,zA,z0,z1])
    refine wE fun hS=>?_
    refine Fr.tkM (n:=7) (is:=[2]) (k:=1) rfl (by kernel_rfl) hS ?_
    repeat(refine wT (v:=?_) rfl (by rfl) (fun X xb=>?_) ?_;rotate_left 1;(focus(go_simp;try with_reducible rfl));try simp only [Act.put,zA,z0,z1])
    refine wE fun hS=>?_
    refine rd1 (i:=3) (by kernel_rfl) (.cons rfl (fun K hK=>?_) .nil)
    go_simp
    (go_at_call 187;(with_reducible refine(fields_any en n r HC.out _ B bp _ (by have h1:=HL.out;have h2:=HN.out;(try have h3:=HM.out);omega) HF.out.kp).mono ?_);rintro e W1 ⟨hr,⟨ta,l1,v,hx,hps,rfl,hV⟩|⟨q,hx,rfl⟩⟩;(focus(have hd0:=hV;(try simp only [hx,↓reduceIte,Fr.bB]at HX);replace HL:=hid (Fr.suf_add (Tr.suf_fields en HC.out.ce.rg _) hx HL.out);have HF2:=Fr.PF.call HB.out HF.out hr hps;replace HF2:=Fr.Fm.since HF.out HF2 hd0;replace HF:=hid HF2;clear HF2 hr hps hx hd0));rotate_left;(focus((try simp only [hx,↓reduceIte,Fr.bB]at HX);have HR:=hid (rd_trans HF.out.gr hr);clear hr hx));rotate_left)
    rotate_left
    ·go_simp
     exact⟨rfl,HR.out,.inr ⟨_,Fr.loop_no HO.out HY.out.1 (HZ.out ▸ HX.out),rfl⟩⟩
    go_simp
    refine hK.out _ _ (fun _=>⟨HF.out.ltAt 0 rfl,HF.out.cellAt 0 rfl 6 rfl⟩) fun hS=>?_;clear hK K
    try simp only [Act.put,zA,z0,z1]
    refine rd1 (i:=4) (by kernel_rfl) (.cons rfl (fun K hK=>?_) .nil)
    refine(if_pos (by rfl)).mpr ?_
    refine Fr.ow_append 1 0 HF.out Tryz.underlying121 Fr.tyF (by simp) (by simp) rfl rfl rfl rfl rfl rfl ?_ ?_
    focus(have h1:=HAc.out;have h2:=Fr.cnt_fields HC.out.ce.rg _ _ _ (HZ.out.symm.trans HX.out);rw [Fr.fdDs_len,Fr.fdDs_len];omega)
    intro v1 W1 HF1
    simp only [setL,z0,z1]at HF1;replace HF:=hid HF1;clear HF1
    refine hK.out _ _ (fun _=>⟨HF.out.ltAt 0 rfl,HF.out.cellAt 0 rfl 6 rfl⟩) fun hS=>?_;clear hK K
    try simp only [Act.put,zA,z0,z1]
    refine Fr.tkM (n:=7) (is:=[5]) (k:=1) rfl (by kernel_rfl) hS ?_
    repeat(refine wT (v:=?_) rfl (by rfl) (fun X xb=>?_) ?_;rotate_left 1;(focus(go_simp;try with_reducible rfl));try simp only [Act.put,zA,z0,z1])
    refine wE fun hS=>?_
    refine rd1 (i:=6) (by kernel_rfl) (.cons rfl (fun K hK=>?_) .nil)
    refine(if_pos (by rfl)).mpr ?_
    (first|((refine Fr.ow_store1 0 HF.out Fr.tySF rfl rfl rfl rfl rfl rfl ?_ ?_);(focus(exact HF.out.rowOne 1 rfl))))
    intro W1 HF1
    simp only [setL,z0,z1]at HF1;replace HF:=hid HF1;clear HF1
    refine hK.out _ _ (fun h=>absurd h (by simp [Fr.setAll])) fun hS=>?_;clear hK K
    try simp only [Act.put,zA,z0,z1]
    refine wpAnyG_done (by kernel_rfl) ?_ _
    clear hS
    go_wp2_with (first
     | (go_at_call 100;(with_reducible refine(took_any _ B bp en _ [59] HF.out.kp).mono ?_);rintro e W1 ⟨rfl,hr,hps⟩;have HL0:=HL;replace HL:=hid (Fr.took_add [59] HL.out);replace HF:=hid (Fr.PF.call HB.out HF.out hr hps);clear hr hps))
    obtain⟨fu',h1,h2,h3,h4,h5⟩:=Fr.loop_okm (w:=[59]) HY.out (HZ.out.symm.trans HX.out) (show l1.length≤lc.length by have:=HL0.out;omega) (Fr.cnt_fields HC.out.ce.rg _ _ _ (HZ.out.symm.trans HX.out))
    go_roundg (Tr.meas (Tr.isS [59] l1) (Tr.took [59] l1).2)
    case rel=>exact⟨_,_,_,fu',_,rfl,rfl,hid (by rw [List.flatten_append,List.flatten_cons,List.flatten_nil,List.append_nil,← Fr.fdDs_app];exact HF.out.pick [0,1,2] [] (by decide) (by simp) (by simp)),hid ⟨h1,h2,h3,h4,h5⟩⟩
    case measure=>rw [HG.out];exact Fr.meas_le (show l1.length≤lc.length by have:=HL0.out;omega)
theorem typ_rest(en:Int)(n:Nat)(r:Tr.Rc)(hC:Fr.CR en n r)(hQ:Fr.CQ en)(hE:Fr.CV 147 en n (Tr.exprP en r) Tr.VEx)(w:World)(B bp:Nat)(l:List Tr.Tok)(hl:l.length≤n)(hp:Tr.PS w B bp en l)(h1:Tr.isS [65,82,82,65,89] l=false)(h2:Tr.isS [82,69,67,79,82,68] l=false):Calls Tryz.prog 148 #[.pointer (some ⟨bp,0,none⟩)] w (Tr.Res w B bp en (Tr.typP en r l) (Fr.VTy w.heap.size)):=by
 obtain⟨X,hX⟩:∃ X,X=Tr.typP en r l:=⟨_,rfl⟩
 rw [show Tr.typP en r l=X from hX.symm]
 unfold Tr.typP at hX
 have HX:=hid hX
 have HB:RowKit.Hid (B≤w.heap.size):=hp.size
 have HF:=hid (Fr.pf_start hp)
 have HL:=hid (show l.length+0≤l.length from Nat.le_refl _)
 have HN:=hid hl
 have HC:=hid hC
 have HQ:=hid hQ
 have HE:=hid hE
 clear hC hQ hE
 have HT1:=hid h1
 have HT2:=hid h2
 clear h1 h2
 have hfl0:=Fr.fld_tok0
 have hfl1:=Fr.fld_tok1
 have hfl3:=Fr.fld_tok3
 clear hX hp hl
 go_enter Tryz.func148,Tryz.ntmps148
 go_wp2_with (first
  | ((with_reducible refine Fr.is_alloc (dst:=some 2) ?_);(first|(refine Fr.wl_alloc HF.out tyT ?_));intro b2 W1 HF1;replace HF:=hid HF1;clear HF1)
  | ((with_reducible refine Fr.is_alloc (dst:=some 3) ?_);(first|(refine Fr.wl_alloc HF.out tyT ?_));intro b3 W1 HF1;replace HF:=hid HF1;clear HF1)
  | (first|((with_reducible refine is_store (T:=123) ?_);(first|(refine Fr.wl_store 0 HF.out tyT rfl rfl rfl rfl rfl (z4 rfl) oT ?_)|(refine Fr.wl_store 1 HF.out tyT rfl rfl rfl rfl rfl (z4 rfl) oT ?_));intro W1 HF1;simp only [setL,z0,z1]at HF1;replace HF:=hid HF1;clear HF1))
  | (first|((with_reducible refine is_store (T:=3) ?_);(first|((refine Fr.wl_store1 0 HF.out Fr.tyInt rfl rfl rfl rfl rfl ?_ ?_);(focus(rfl))));intro W1 HF1;simp only [setL,z0,z1]at HF1;replace HF:=hid HF1;clear HF1))
  | (first|((with_reducible refine is_store (T:=65) ?_);(first|((refine Fr.wl_store1 0 HF.out Fr.tyST rfl rfl rfl rfl rfl ?_ ?_);(focus(first|rfl|exact(HF.out.da 1 _ _ rfl).one))));intro W1 HF1;simp only [setL,z0,z1]at HF1;replace HF:=hid HF1;clear HF1)|((with_reducible refine is_store (T:=64) ?_);(first|((refine Fr.wl_store1 0 HF.out Fr.tySPa rfl rfl rfl rfl rfl ?_ ?_);(focus(exact(HF.out.da 0 _ _ rfl).one))));intro W1 HF1;simp only [setL,z0,z1]at HF1;replace HF:=hid HF1;clear HF1))
  | (first|((with_reducible refine Fr.is_load (T:=123) ?_);(first|(refine Fr.wl_load 0 HF.out rfl rfl Tryz.underlying123 rfl tyT rfl ?_))))
  | (go_at_call 97;(with_reducible refine(Fr.peek_split _ B bp en _ HF.out.kp).mono ?_);rintro e W1 ⟨hb,kd,t2,n2,q2,hpk,hq,rfl,-⟩;(try simp only [hq,↓reduceIte,Fr.bB]at HX);replace HF:=hid (HF.out.below hb);clear hb hpk hq)
  | (go_at_call 100;(with_reducible refine(Fr.took_split _ B bp en _ _ HF.out.kp).mono ?_);rintro e W1 ⟨hr,⟨hs,rfl,hps⟩|⟨hs,rfl,hps⟩⟩;(focus(first|(exact absurd (hs.symm.trans HT1.out) (by decide))|(exact absurd (hs.symm.trans HT2.out) (by decide))|((try simp only [hs,↓reduceIte,Fr.bB]at HX);replace HF:=hid (Fr.PF.call HB.out HF.out hr hps);replace HL:=hid (Fr.tail_add hs HL.out);clear hr hps hs)));rotate_left;(focus(((try simp only [hs,↓reduceIte,Fr.bB]at HX);replace HF:=hid (Fr.PF.call HB.out HF.out hr hps);clear hr hps hs)));rotate_left)
  | (go_at_call 98;(with_reducible refine(skip_any _ B bp en _ _ HF.out.kp).mono ?_);rintro e W1 ⟨hr,⟨_,l1,v,hx,hps,rfl,rfl⟩|⟨q,hx,rfl⟩⟩;(focus((try simp only [hx,↓reduceIte,Fr.bB]at HX);replace HL:=hid (con_add (Tr.con_skip en _ _) hx HL.out);replace HF:=hid (Fr.PF.call HB.out HF.out hr hps);clear hr hps hx));rotate_left;(focus((try simp only [hx,↓reduceIte,Fr.bB]at HX);have HR:=hid (rd_trans HF.out.gr hr);clear hr hx));rotate_left)
  | (go_at_call 102;(with_reducible refine(Fr.is_split _ B bp en _ _ HF.out.kp).mono ?_);rintro e W1 ⟨hb,⟨hs,rfl⟩|⟨hs,rfl⟩⟩;(focus((try simp only [hs,↓reduceIte,Fr.bB]at HX);replace HF:=hid (HF.out.below hb);clear hb hs));rotate_left;(focus((try simp only [hs,↓reduceIte,Fr.bB]at HX);replace HF:=hid (HF.out.below hb);clear hb hs));rotate_left)
  | (go_at_call 186;(with_reducible refine(HQ.out n _ B bp _ (by have h1:=HL.out;have h2:=HN.out;(try have h3:=HM.out);omega) HF.out.kp).mono ?_);rintro e W1 ⟨hr,⟨ta,l1,v,hx,hps,rfl,hV⟩|⟨q,hx,rfl⟩⟩;(focus(obtain⟨k0,m0,n0,ls0,el0,ba0,fs0,ps0,rs0,p0,v3,v4,v5,v6,v7,v8,rfl,hD,hd0,hd1,hd2,hd3,hd4,hd5⟩:=Fr.VTy.open hV;(try simp only [hx,↓reduceIte,Fr.bB]at HX);replace HL:=hid (con_add (Tr.con_qual en _) hx HL.out);have HF2:=Fr.PF.call HB.out HF.out hr hps;replace HF2:=Fr.Fm.since HF.out HF2 hd5;replace HF2:=Fr.Fm.since HF.out HF2 hd4;replace HF2:=Fr.Fm.since HF.out HF2 hd3;replace HF2:=Fr.Fm.since HF.out HF2 hd2;replace HF2:=Fr.Fm.since HF.out HF2 hd1;replace HF2:=Fr.Fm.since HF.out HF2 hd0;replace HF:=hid HF2;clear HF2 hr hps hx hd0 hd1 hd2 hd3 hd4 hd5));rotate_left;(focus((try simp only [hx,↓reduceIte,Fr.bB]at HX);have HR:=hid (rd_trans HF.out.gr hr);clear hr hx));rotate_left)
  | (go_at_call 148;(with_reducible refine(HC.out.ty _ B bp _ (by have h1:=HL.out;have h2:=HN.out;(try have h3:=HM.out);omega) HF.out.kp).mono ?_);rintro e W1 ⟨hr,⟨ta,l1,v,hx,hps,rfl,hV⟩|⟨q,hx,rfl⟩⟩;(focus(obtain⟨k0,m0,n0,ls0,el0,ba0,fs0,ps0,rs0,p0,v3,v4,v5,v6,v7,v8,rfl,hD,hd0,hd1,hd2,hd3,hd4,hd5⟩:=Fr.VTy.open hV;(try simp only [hx,↓reduceIte,Fr.bB]at HX);replace HL:=hid (con_add (HC.out.ce.rg.ty _) hx HL.out);have HF2:=Fr.PF.call HB.out HF.out hr hps;replace HF2:=Fr.Fm.since HF.out HF2 hd5;replace HF2:=Fr.Fm.since HF.out HF2 hd4;replace HF2:=Fr.Fm.since HF.out HF2 hd3;replace HF2:=Fr.Fm.since HF.out HF2 hd2;replace HF2:=Fr.Fm.since HF.out HF2 hd1;replace HF2:=Fr.Fm.since HF.out HF2 hd0;replace HF:=hid HF2;clear HF2 hr hps hx hd0 hd1 hd2 hd3 hd4 hd5));rotate_left;(focus((try simp only [hx,↓reduceIte,Fr.bB]at HX);have HR:=hid (rd_trans HF.out.gr hr);clear hr hx));rotate_left)
  | (go_at_call 149;(with_reducible refine(formals_any en n r HC.out HQ.out _ B bp _ (by have h1:=HL.out;have h2:=HN.out;(try have h3:=HM.out);omega) HF.out.kp).mono ?_);rintro e W1 ⟨hr,⟨ta,l1,v,hx,hps,rfl,hV⟩|⟨q,hx,rfl⟩⟩;(focus(obtain⟨va,vb,rfl,hd0,hd1⟩:=hV;(try simp only [hx,↓reduceIte,Fr.bB]at HX);replace HL:=hid (con_add (Tr.con_formals en HC.out.ce.rg _) hx HL.out);have HF2:=Fr.PF.call HB.out HF.out hr hps;replace HF2:=Fr.Fm.since HF.out HF2 hd1;replace HF2:=Fr.Fm.since HF.out HF2 hd0;replace HF:=hid HF2;clear HF2 hr hps hx hd0 hd1));rotate_left;(focus((try simp only [hx,↓reduceIte,Fr.bB]at HX);have HR:=hid (rd_trans HF.out.gr hr);clear hr hx));rotate_left)
  | ((with_reducible refine Fr.is_lit ?_);(refine Fr.wl_lit1 HF.out Tryz.underlying65 tyT (by simp) (by simp) rfl rfl rfl (Tr.tyD ta) ?_ ?_);(focus(rw [hD];(repeat' (first|exact Da.row_nil _ _|exact Da.Is.int _|exact Da.Is.str _|(refine HF.out.isM ?_;simp;done)|refine Da.row_cons ?_ ?_))));intro b W1 HF1;replace HF:=hid HF1;clear HF1))
 all_goals first|(exact⟨rfl,HR.out,.inr ⟨_,HX.out,rfl⟩⟩)|skip
 all_goals
  refine bodyPost_ret (Fr.fm_results 1 HF.out Tryz.results148 rfl rfl Tryz.underlying123 rfl tyT rfl) rfl ?_
  refine⟨Fr.PF.rd HF.out,.inl ⟨_,_,_,HX.out,Fr.PF.ps HF.out,rfl,_,rfl,?_⟩⟩
  first|(rw [hD];(repeat' (first|exact Da.row_nil _ _|exact Da.Is.int _|exact Da.Is.str _|exact HF.out.out 0 rfl|exact HF.out.out 1 rfl|exact HF.out.out 2 rfl|exact HF.out.out 3 rfl|exact HF.out.out 4 rfl|exact HF.out.out 5 rfl|refine Da.row_cons ?_ ?_));done)|(simp only [Tr.tyD,Tr.exDs,Tr.tyDs,Tr.fdDs];(repeat' (first|exact Da.row_nil _ _|exact Da.Is.int _|exact Da.Is.str _|exact Fr.is_nil _|exact HF.out.out 0 rfl|exact HF.out.out 1 rfl|refine Da.row_cons ?_ ?_)))
theorem typ_any(en:Int)(n:Nat)(r:Tr.Rc)(hC:Fr.CR en n r)(hQ:Fr.CQ en)(hE:Fr.CV 147 en n (Tr.exprP en r) Tr.VEx):Fr.CV 148 en n (Tr.typP en r) Fr.VTy:=by
 intro w B bp l hl hp
 cases h1:Tr.isS [65,82,82,65,89] l with
 | true=>exact typ_array en n r hC hQ hE w B bp l hl hp h1
 | false =>
  cases h2:Tr.isS [82,69,67,79,82,68] l with
  | false=>exact typ_rest en n r hC hQ hE w B bp l hl hp h1 h2
  | true =>
   cases h3:Tr.isS [40] l.tail with
   | true=>exact typ_based en n r hC hQ hE w B bp l hl hp h1 h2 h3
   | false=>exact typ_record en n r hC hQ hE w B bp l hl hp h1 h2 h3
end Go.Proofs.YtlhmkfcbldghfaaGreatDoor
