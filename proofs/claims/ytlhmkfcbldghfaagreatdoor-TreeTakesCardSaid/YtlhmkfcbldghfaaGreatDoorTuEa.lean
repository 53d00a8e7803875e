/- The walk of tree's parser's typ. Conditions: the parser's block is as it is made;shorter texts are read as they should be. -/
import Derived.Test.YtlhmkfcbldghfaaGreatDoorTuX
import Derived.Test.YtlhmkfcbldghfaaGreatDoorRegX
namespace Go.Proofs.YtlhmkfcbldghfaaGreatDoor
set_option linter.all false
open Go.Lib (hid)
set_option maxRecDepth 1000000
set_option maxHeartbeats 16000000
open Go.RowKit
open Fr (con_add is_store setL tkM tyT wE wT)
open Tr (LoopX exprP rd_trans tyD)
namespace Fr
open Da Tr
theorem exDs_snoc(xs:List Ex)(x:Ex):exDs (xs++[x])=exDs xs++[exD x]:=by rw [exDs_map,exDs_map,List.map_append];rfl
theorem exDs_len'(xs:List Ex):(exDs xs).length=xs.length:=by rw [exDs_map,List.length_map]
abbrev cTy(k:Int)(m n:List UInt8)(v3 v4 v5 v6 v7 v8:Value)(p:Int):List Value:=[.int .i64 k,.string ⟨m.toArray⟩,.string ⟨n.toArray⟩,v3,v4,v5,v6,v7,v8,.int .i64 p]
theorem loopx_okm{α:Type}{w:List UInt8}{F:List Tok→Tr.R α}{acc:List α}{l l1:List Tok}{fu:Nat}{a:α}(h:F l=.ok a l1)(hf:l.length≤fu)(hs:l1.length≤l.length) :
  ∃ fu',LoopX w F acc true l fu=LoopX w F (acc++[a]) (isS w l1) (took w l1).2 fu'∧(took w l1).2.length≤fu':=by
 cases hb:isS w l1 with
 | true =>
  have hne:=tail_lt (tl_ne hb)
  obtain⟨f2,rfl⟩:∃ f2,fu=f2+1:=⟨fu - 1,by omega⟩
  refine⟨f2,?_,by rw [took_ok hb];omega⟩
  rw [took_ok hb]
  unfold LoopX
  conv=>lhs;unfold manyC
  simp only [if_true,h,R.bind,hb]
  cases manyC w F (f2+1) l1.tail with
  | no q=>rfl
  | ok r l2=>simp
 | false =>
  refine⟨l1.length,?_,by rw [took_no hb];exact Nat.le_refl _⟩
  rw [took_no hb]
  unfold LoopX manyC
  simp [h,R.bind,hb]
theorem meas_le{w:List UInt8}{l l1:List Tok}(hs:l1.length≤l.length):meas (isS w l1) (took w l1).2<meas true l:=by
 unfold meas
 cases hb:isS w l1 with
 | true=>rw [took_ok hb];have:=tail_lt (tl_ne hb);simp only [if_true];omega
 | false=>simp
theorem loop_okm{β:Type}{w:List UInt8}{F:List Tok→Tr.R (List β)}{acc:List (List β)}{lc l1:List Tok}{fu c0 N0:Nat}{a:List β}{Y:Tr.R (List (List β))}{E:Prop}(hY:Y=LoopX w F acc true lc fu∧lc.length≤fu∧lc.length+c0≤N0∧acc.flatten.length+lc.length≤6000∧E)(h:F lc=.ok a l1)(hs:l1.length≤lc.length)(ha:a.length+l1.length≤lc.length) :
  ∃ fu',Y=LoopX w F (acc++[a]) (isS w l1) (took w l1).2 fu'∧(took w l1).2.length≤fu'∧(took w l1).2.length+c0≤N0∧(acc++[a]).flatten.length+(took w l1).2.length≤6000∧(isS w l1=true∨acc++[a] ≠ []):=by
 obtain⟨h1,h2,h3,h4,_⟩:=hY
 obtain⟨fu',h5,h6⟩:=loopx_okm (w:=w) (acc:=acc) h h2 hs
 have h7:=took_len w l1
 refine⟨fu',h1.trans h5,h6,by omega,?_,.inr (by simp)⟩
 rw [List.flatten_append,List.length_append]
 simp only [List.flatten_cons,List.flatten_nil,List.append_nil]
 omega
end Fr
theorem typ_array(en:Int)(n:Nat)(r:Tr.Rc)(hC:Fr.CR en n r)(hQ:Fr.CQ en)(hE:Fr.CV 147 en n (exprP en r) Tr.VEx)(w:World)(B bp:Nat)(l:List Tr.Tok)(hl:l.length≤n)(hp:Tr.PS w B bp en l)(h1:Tr.isS [65,82,82,65,89] l=true):Calls Tryz.prog 148 #[.pointer (some ⟨bp,0,none⟩)] w (Tr.Res w B bp en (Tr.typP en r l) (Fr.VTy w.heap.size)):=by
 obtain⟨X,hX⟩:∃ X,X=Tr.typP en r l:=⟨_,rfl⟩
 rw [show Tr.typP en r l=X from hX.symm]
 unfold Tr.typP at hX
 have HX:=hid hX
 have HB:RowKit.Hid (B≤w.heap.size):=hp.size
 have HF:=hid (Fr.pf_start hp)
 have HL:=hid (show l.length+0≤l.length from Nat.le_refl _)
 have HN:=hid hl
 have HC:=hid hC
 have HQ:=hid hQ
 have HE:=hid hE
 clear hC hQ hE
 have HT1:=hid h1
 clear h1
 have hfl0:=Fr.fld_tok0
 have hfl1:=Fr.fld_tok1
 have hfl3:=Fr.fld_tok3
 clear hX hp hl
 go_enter Tryz.func148,Tryz.ntmps148
 go_wp2_with (first|((with_reducible refine Fr.is_alloc (dst:=some 2) ?_);(first|(refine Fr.wl_alloc HF.out tyT ?_));intro b2 W1 HF1;replace HF:=hid HF1;clear HF1)|((with_reducible refine Fr.is_alloc (dst:=some 3) ?_);(first|(refine Fr.wl_alloc HF.out tyT ?_));intro b3 W1 HF1;replace HF:=hid HF1;clear HF1)|(first|((with_reducible refine is_store (T:=123) ?_);((refine Fr.wl_store 0 HF.out tyT rfl rfl rfl rfl rfl (z4 rfl) oT ?_));intro W1 HF1;simp only [setL,z0,z1]at HF1;replace HF:=hid HF1;clear HF1))|(first|((with_reducible refine is_store (T:=3) ?_);(first|((refine Fr.wl_store1 0 HF.out Fr.tyInt rfl rfl rfl rfl rfl ?_ ?_);(focus(rfl))));intro W1 HF1;simp only [setL,z0,z1]at HF1;replace HF:=hid HF1;clear HF1))|(go_at_call 97;(with_reducible refine(Fr.peek_split _ B bp en _ HF.out.kp).mono ?_);rintro e W1 ⟨hb,kd,t2,n2,q2,hpk,hq,rfl,-⟩;(try simp only [hq,↓reduceIte,Fr.bB]at HX);replace HF:=hid (HF.out.below hb);clear hb hpk hq)|(go_at_call 100;(with_reducible refine(Fr.took_split _ B bp en _ _ HF.out.kp).mono ?_);rintro e W1 ⟨hr,⟨hs,rfl,hps⟩|⟨hs,rfl,hps⟩⟩;(focus(((try simp only [hs,↓reduceIte,Fr.bB]at HX);replace HF:=hid (Fr.PF.call HB.out HF.out hr hps);replace HL:=hid (Fr.tail_add hs HL.out);clear hr hps hs)));rotate_left;(focus((exact absurd (hs.symm.trans HT1.out) (by decide))));rotate_left))
 all_goals first|(exact⟨rfl,HR.out,.inr ⟨_,HX.out,rfl⟩⟩)|skip
 ·obtain⟨Y,hY⟩:∃ Y,Y=Tr.manyC Tr.comma (exprP en r) (l.length+1) l.tail:=⟨_,rfl⟩
  have HX1:=HX.out
  rw [← hY]at HX1
  replace HX:=hid HX1
  clear HX1
  rw [Tr.loopx_start]at hY
  have hlen:=HF.out.kp.len
  have hle:l.tail.length≤l.length:=by have:=HL.out;omega
  have HY:=hid (show Y=LoopX Tr.comma (exprP en r) [] true l.tail l.length∧l.tail.length≤l.length∧l.tail.length+(0+1)≤l.length∧([]:List (Tr.Ex)).length+l.tail.length≤6000∧(true=true∨([]:List (Tr.Ex)) ≠ [])from⟨hY,hle,HL.out,by simpa using hlen,.inl rfl⟩)
  clear hY
  try simp only [Act.put,zA,z0,z1]
  go_loopg [4] (Tr.meas true l.tail) (fun g v4 wr=>∃(acc:List (Tr.Ex)) (more:Bool) (lc:List Tr.Tok) (fu:Nat) (vl:Value),g=Tr.meas more lc∧v4=.bool more∧RowKit.Hid (Fr.PF w B bp en lc wr [.blk b3 (Fr.cTy 2 [] [] vl (.slice none 0 0) (.slice none 0 0) (.slice none 0 0) (.slice none 0 0) (.slice none 0 0) q2),.row vl 53 6 (Tr.exDs acc),.blk b2 Fr.zT] [])∧RowKit.Hid (Y=LoopX Tr.comma (exprP en r) acc more lc fu∧lc.length≤fu∧lc.length+(0+1)≤l.length∧acc.length+lc.length≤6000∧(more=true∨acc ≠ [])))
  case atStart=>exact⟨[],true,l.tail,l.length,.slice none 0 0,rfl,rfl,hid ((HF.out.own 53 6).pick [1,0,2] [] (by decide) (by simp) (by simp)),HY⟩
  case round =>
   clear HF HY HL
   obtain⟨acc,more,lc,fu,vl,hg,hm,HF,HY⟩:=hrel
   subst hm
   cases more with
   | false =>
    have HX1:=HX.out
    rw [HY.out.1,Tr.loopx_end,Fr.bind_ok]at HX1
    replace HX:=hid HX1
    have HL:=hid HY.out.2.2.1
    clear HX1 hg HY
    go_wp2_with (first|(first|((with_reducible refine is_store (T:=123) ?_);((refine Fr.wl_store 2 HF.out tyT rfl rfl rfl rfl rfl (z4 rfl) (by repeat' (first|exact z3 _|refine z2 ?_ ?_|rfl|exact HF.out.rowOne 1 rfl)) ?_));intro W1 HF1;simp only [setL,z0,z1]at HF1;replace HF:=hid HF1;clear HF1))|(((with_reducible refine is_store (T:=65) ?_);(first|((refine Fr.wl_store1 0 HF.out Fr.tyST rfl rfl rfl rfl rfl ?_ ?_);(focus(rfl))));intro W1 HF1;simp only [setL,z0,z1]at HF1;replace HF:=hid HF1;clear HF1))|(first|((with_reducible refine Fr.is_load (T:=123) ?_);(first|(refine Fr.wl_load 0 HF.out rfl rfl Tryz.underlying123 rfl tyT rfl ?_))))|(go_at_call 98;(with_reducible refine(skip_any _ B bp en _ _ HF.out.kp).mono ?_);rintro e W1 ⟨hr,⟨_,l1,v,hx,hps,rfl,rfl⟩|⟨q,hx,rfl⟩⟩;(focus((try simp only [hx,↓reduceIte,Fr.bB]at HX);replace HL:=hid (con_add (Tr.con_skip en _ _) hx HL.out);replace HF:=hid (Fr.PF.call HB.out HF.out hr hps);clear hr hps hx));rotate_left;(focus((try simp only [hx,↓reduceIte,Fr.bB]at HX);have HR:=hid (rd_trans HF.out.gr hr);clear hr hx));rotate_left)|(go_at_call 148;(with_reducible refine(HC.out.ty _ B bp _ (by have h1:=HL.out;have h2:=HN.out;(try have h3:=HM.out);omega) HF.out.kp).mono ?_);rintro e W1 ⟨hr,⟨ta,l1,v,hx,hps,rfl,hV⟩|⟨q,hx,rfl⟩⟩;(focus(obtain⟨k0,m0,n0,ls0,el0,ba0,fs0,ps0,rs0,p0,v3,v4,v5,v6,v7,v8,rfl,hD,hd0,hd1,hd2,hd3,hd4,hd5⟩:=Fr.VTy.open hV;(try simp only [hx,↓reduceIte,Fr.bB]at HX);replace HL:=hid (con_add (HC.out.ce.rg.ty _) hx HL.out);have HF2:=Fr.PF.call HB.out HF.out hr hps;replace HF2:=Fr.Fm.since HF.out HF2 hd5;replace HF2:=Fr.Fm.since HF.out HF2 hd4;replace HF2:=Fr.Fm.since HF.out HF2 hd3;replace HF2:=Fr.Fm.since HF.out HF2 hd2;replace HF2:=Fr.Fm.since HF.out HF2 hd1;replace HF2:=Fr.Fm.since HF.out HF2 hd0;replace HF:=hid HF2;clear HF2 hr hps hx hd0 hd1 hd2 hd3 hd4 hd5));rotate_left;(focus((try simp only [hx,↓reduceIte,Fr.bB]at HX);have HR:=hid (rd_trans HF.out.gr hr);clear hr hx));rotate_left)|((with_reducible refine Fr.is_lit ?_);(refine Fr.wl_lit1 HF.out Tryz.underlying65 tyT (by simp) (by simp) rfl rfl rfl (tyD ta) ?_ ?_);(focus(rw [hD];(repeat' (first|exact Da.row_nil _ _|exact Da.Is.int _|exact Da.Is.str _|(refine HF.out.isM ?_;simp;done)|refine Da.row_cons ?_ ?_))));intro b W1 HF1;replace HF:=hid HF1;clear HF1))
    all_goals first|(exact⟨rfl,HR.out,.inr ⟨_,HX.out,rfl⟩⟩)|skip
    replace HF:=hid (HF.out.close (k:=1) rfl)
    refine bodyPost_ret (Fr.fm_results 2 HF.out Tryz.results148 rfl rfl Tryz.underlying123 rfl tyT rfl) rfl ?_
    refine⟨Fr.PF.rd HF.out,.inl ⟨_,_,_,HX.out,Fr.PF.ps HF.out,rfl,_,rfl,?_⟩⟩
    first|(rw [hD];(repeat' (exact Da.row_nil _ _));done)|(simp only [tyD,Tr.exDs,Tr.tyDs,Tr.fdDs];(repeat' (first|exact Da.row_nil _ _|exact Da.Is.int _|exact Da.Is.str _|exact Fr.is_nil _|exact HF.out.out 0 rfl|exact HF.out.out 1 rfl|refine Da.row_cons ?_ ?_)))
   | true =>
    have HG:=hid hg
    clear hg
    have HM:=hid (HY.out.2.2.1)
    have HL:=hid (show lc.length+0≤lc.length from Nat.le_refl _)
    obtain⟨Z,hZ⟩:∃ Z,Z=exprP en r lc:=⟨_,rfl⟩
    have HZ:=hid hZ
    have HO:=HX
    replace HX:=hid hZ
    have HAc:=hid HY.out.2.2.2.1
    clear hZ
    go_wp2
    all_goals first|(exact⟨rfl,HR.out,.inr ⟨_,Fr.loop_no HO.out HY.out.1 (HZ.out ▸ HX.out),rfl⟩⟩)|skip
    replace HF:=hid HF.out.drew
    refine wp_region_G (UpTo 7 (fun X=>b3<X.heap.size∧X.cell? ⟨b3,3,none⟩=some vl)) 8 (by kernel_rfl) (by kernel_rfl) (fun _=>⟨HF.out.ltAt 0 rfl,HF.out.cellAt 0 rfl 3 rfl⟩) (fun _ hS=>?_)
    generalize World.drew _=W1 at HF hS ⊢
    refine tkM (n:=8) (is:=[0]) (k:=1) rfl (by kernel_rfl) hS ?_
    repeat(refine wT (v:=?_) rfl (by rfl) (fun X xb=>?_) ?_;rotate_left 1;(focus(go_simp;try with_reducible rfl));try simp only [Act.put,zA,z0,z1])
    refine wE fun hS=>?_
    refine Fr.tkB (n:=8) (is:=[1]) [[1]] (k:=1) rfl (by kernel_rfl) hS ?_
    repeat(refine wT (v:=?_) rfl (by rfl) (fun X xb=>?_) ?_;rotate_left 1;(focus(go_simp;try with_reducible rfl));try simp only [Act.put,zA,z0,z1])
    refine wE fun hS=>?_
    refine tkM (n:=8) (is:=[2]) (k:=1) rfl (by kernel_rfl) hS ?_
    repeat(refine wT (v:=?_) rfl (by rfl) (fun X xb=>?_) ?_;rotate_left 1;(focus(go_simp;try with_reducible rfl));try simp only [Act.put,zA,z0,z1])
    refine wE fun hS=>?_
    refine rd1 (i:=3) (by kernel_rfl) (.cons rfl (fun K hK=>?_) .nil)
    go_simp
    (go_at_call 147;(with_reducible refine(HE.out _ B bp _ (by have h1:=HL.out;have h2:=HN.out;(try have h3:=HM.out);omega) HF.out.kp).mono ?_);rintro e W1 ⟨hr,⟨ta,l1,v,hx,hps,rfl,hV⟩|⟨q,hx,rfl⟩⟩;(focus(obtain⟨k0,n0,tx0,op0,xs0,p0,va,rfl,hD,hdp,hd0⟩:=Fr.VEx.parts hV;(try simp only [hx,↓reduceIte,Fr.bB]at HX);replace HL:=hid (con_add (Tr.con_expr en HC.out.ce.rg _) hx HL.out);have HF2:=Fr.PF.call HB.out HF.out hr hps;replace HF2:=Fr.Fm.since HF.out HF2 hd0;replace HF:=hid HF2;clear HF2 hr hps hx hd0));rotate_left;(focus((try simp only [hx,↓reduceIte,Fr.bB]at HX);have HR:=hid (rd_trans HF.out.gr hr);clear hr hx));rotate_left)
    rotate_left
    ·go_simp
     exact⟨rfl,HR.out,.inr ⟨_,Fr.loop_no HO.out HY.out.1 (HZ.out ▸ HX.out),rfl⟩⟩
    go_simp
    refine hK.out _ _ (fun _=>⟨HF.out.ltAt 0 rfl,HF.out.cellAt 0 rfl 3 rfl⟩) fun hS=>?_;clear hK K
    try simp only [Act.put,zA,z0,z1]
    refine rd1 (i:=4) (by kernel_rfl) (.cons rfl (fun K hK=>?_) .nil)
    refine(if_pos (by rfl)).mpr ?_
    refine Fr.ow_lit1 HF.out Tryz.underlying47 Fr.tyE (by simp) (by simp) rfl rfl rfl rfl (row:=Tr.exD ta) ?_ ?_
    focus(rw [hD];(repeat' (first|exact Da.row_nil _ _|exact Da.Is.int _|exact Da.Is.str _|exact HF.out.da 0 _ _ rfl|refine Da.row_cons ?_ ?_)))
    intro b1 W1 HF1
    replace HF:=hid HF1;clear HF1
    refine hK.out _ _ (fun _=>⟨HF.out.ltAt 0 rfl,HF.out.cellAt 0 rfl 3 rfl⟩) fun hS=>?_;clear hK K
    try simp only [Act.put,zA,z0,z1]
    refine rd1 (i:=5) (by kernel_rfl) (.cons rfl (fun K hK=>?_) .nil)
    refine(if_pos (by rfl)).mpr ?_
    refine Fr.ow_append 1 0 HF.out Tryz.underlying47 Fr.tyE (by simp) (by simp) rfl rfl rfl rfl rfl rfl ?_ ?_
    focus(have h1:=HAc.out;have h2:=HL.out;rw [Fr.exDs_len'];simp;omega)
    intro v1 W1 HF1
    simp only [setL,z0,z1]at HF1;replace HF:=hid HF1;clear HF1
    refine hK.out _ _ (fun _=>⟨HF.out.ltAt 0 rfl,HF.out.cellAt 0 rfl 3 rfl⟩) fun hS=>?_;clear hK K
    try simp only [Act.put,zA,z0,z1]
    refine tkM (n:=8) (is:=[6]) (k:=1) rfl (by kernel_rfl) hS ?_
    repeat(refine wT (v:=?_) rfl (by rfl) (fun X xb=>?_) ?_;rotate_left 1;(focus(go_simp;try with_reducible rfl));try simp only [Act.put,zA,z0,z1])
    refine wE fun hS=>?_
    refine rd1 (i:=7) (by kernel_rfl) (.cons rfl (fun K hK=>?_) .nil)
    refine(if_pos (by rfl)).mpr ?_
    (first|((refine Fr.ow_store1 0 HF.out Fr.tySE rfl rfl rfl rfl rfl rfl ?_ ?_);(focus(exact HF.out.rowOne 1 rfl))))
    intro W1 HF1
    simp only [setL,z0,z1]at HF1;replace HF:=hid HF1;clear HF1
    refine hK.out _ _ (fun h=>absurd h (by simp [Fr.setAll])) fun hS=>?_;clear hK K
    try simp only [Act.put,zA,z0,z1]
    refine wpAnyG_done (by kernel_rfl) ?_ _
    clear hS
    go_wp2_with (first
     | (go_at_call 100;(with_reducible refine(took_any _ B bp en _ [44] HF.out.kp).mono ?_);rintro e W1 ⟨rfl,hr,hps⟩;have HL0:=HL;replace HL:=hid (Fr.took_add [44] HL.out);replace HF:=hid (Fr.PF.call HB.out HF.out hr hps);clear hr hps))
    obtain⟨fu',h1,h2,h3,h4,h5⟩:=Fr.loop_ok (w:=Tr.comma) HY.out (HZ.out.symm.trans HX.out) (show l1.length<lc.length by have:=HL0.out;omega)
    go_roundg (Tr.meas (Tr.isS [44] l1) (Tr.took [44] l1).2)
    case rel=>exact⟨_,_,_,fu',_,rfl,rfl,hid (by rw [Fr.exDs_snoc];exact HF.out.pick [0,1,2] [] (by decide) (by simp) (by simp)),hid ⟨h1,h2,h3,h4,h5⟩⟩
    case measure=>rw [HG.out];exact Tr.meas_lt (show l1.length<lc.length by have:=HL0.out;omega)
theorem typ_based(en:Int)(n:Nat)(r:Tr.Rc)(hC:Fr.CR en n r)(hQ:Fr.CQ en)(hE:Fr.CV 147 en n (exprP en r) Tr.VEx)(w:World)(B bp:Nat)(l:List Tr.Tok)(hl:l.length≤n)(hp:Tr.PS w B bp en l)(h1:Tr.isS [65,82,82,65,89] l=false)(h2:Tr.isS [82,69,67,79,82,68] l=true)(h3:Tr.isS [40] l.tail=true):Calls Tryz.prog 148 #[.pointer (some ⟨bp,0,none⟩)] w (Tr.Res w B bp en (Tr.typP en r l) (Fr.VTy w.heap.size)):=by
 obtain⟨X,hX⟩:∃ X,X=Tr.typP en r l:=⟨_,rfl⟩
 rw [show Tr.typP en r l=X from hX.symm]
 unfold Tr.typP at hX
 have HX:=hid hX
 have HB:RowKit.Hid (B≤w.heap.size):=hp.size
 have HF:=hid (Fr.pf_start hp)
 have HL:=hid (show l.length+0≤l.length from Nat.le_refl _)
 have HN:=hid hl
 have HC:=hid hC
 have HQ:=hid hQ
 have HE:=hid hE
 clear hC hQ hE
 have HT1:=hid h1
 have HT2:=hid h2
 have HT3:=hid h3
 clear h1 h2 h3
 have hfl0:=Fr.fld_tok0
 have hfl1:=Fr.fld_tok1
 have hfl3:=Fr.fld_tok3
 clear hX hp hl
 go_enter Tryz.func148,Tryz.ntmps148
 go_wp2_with (first|((with_reducible refine Fr.is_alloc (dst:=some 2) ?_);(first|(refine Fr.wl_alloc HF.out tyT ?_));intro b2 W1 HF1;replace HF:=hid HF1;clear HF1)|((with_reducible refine Fr.is_alloc (dst:=some 3) ?_);(first|(refine Fr.wl_alloc HF.out tyT ?_));intro b3 W1 HF1;replace HF:=hid HF1;clear HF1)|(first|((with_reducible refine is_store (T:=123) ?_);((refine Fr.wl_store 0 HF.out tyT rfl rfl rfl rfl rfl (z4 rfl) oT ?_));intro W1 HF1;simp only [setL,z0,z1]at HF1;replace HF:=hid HF1;clear HF1))|(first|((with_reducible refine is_store (T:=3) ?_);(first|((refine Fr.wl_store1 0 HF.out Fr.tyInt rfl rfl rfl rfl rfl ?_ ?_);(focus(rfl))));intro W1 HF1;simp only [setL,z0,z1]at HF1;replace HF:=hid HF1;clear HF1))|(((with_reducible refine is_store (T:=65) ?_);(first|((refine Fr.wl_store1 0 HF.out Fr.tyST rfl rfl rfl rfl rfl ?_ ?_);(focus(rfl))));intro W1 HF1;simp only [setL,z0,z1]at HF1;replace HF:=hid HF1;clear HF1))|(go_at_call 97;(with_reducible refine(Fr.peek_split _ B bp en _ HF.out.kp).mono ?_);rintro e W1 ⟨hb,kd,t2,n2,q2,hpk,hq,rfl,-⟩;(try simp only [hq,↓reduceIte,Fr.bB]at HX);replace HF:=hid (HF.out.below hb);clear hb hpk hq)|(go_at_call 100;(with_reducible refine(Fr.took_split _ B bp en _ _ HF.out.kp).mono ?_);rintro e W1 ⟨hr,⟨hs,rfl,hps⟩|⟨hs,rfl,hps⟩⟩;(focus(first|(exact absurd (hs.symm.trans HT1.out) (by decide))|((try simp only [hs,↓reduceIte,Fr.bB]at HX);replace HF:=hid (Fr.PF.call HB.out HF.out hr hps);replace HL:=hid (Fr.tail_add hs HL.out);clear hr hps hs)));rotate_left;(focus(first|(exact absurd (hs.symm.trans HT2.out) (by decide))|(exact absurd (hs.symm.trans HT3.out) (by decide))|((try simp only [hs,↓reduceIte,Fr.bB]at HX);replace HF:=hid (Fr.PF.call HB.out HF.out hr hps);clear hr hps hs)));rotate_left)|(go_at_call 98;(with_reducible refine(skip_any _ B bp en _ _ HF.out.kp).mono ?_);rintro e W1 ⟨hr,⟨_,l1,v,hx,hps,rfl,rfl⟩|⟨q,hx,rfl⟩⟩;(focus((try simp only [hx,↓reduceIte,Fr.bB]at HX);replace HL:=hid (con_add (Tr.con_skip en _ _) hx HL.out);replace HF:=hid (Fr.PF.call HB.out HF.out hr hps);clear hr hps hx));rotate_left;(focus((try simp only [hx,↓reduceIte,Fr.bB]at HX);have HR:=hid (rd_trans HF.out.gr hr);clear hr hx));rotate_left)|(go_at_call 186;(with_reducible refine(HQ.out n _ B bp _ (by have h1:=HL.out;have h2:=HN.out;(try have h3:=HM.out);omega) HF.out.kp).mono ?_);rintro e W1 ⟨hr,⟨ta,l1,v,hx,hps,rfl,hV⟩|⟨q,hx,rfl⟩⟩;(focus(obtain⟨k0,m0,n0,ls0,el0,ba0,fs0,ps0,rs0,p0,v3,v4,v5,v6,v7,v8,rfl,hD,hd0,hd1,hd2,hd3,hd4,hd5⟩:=Fr.VTy.open hV;(try simp only [hx,↓reduceIte,Fr.bB]at HX);replace HL:=hid (con_add (Tr.con_qual en _) hx HL.out);have HF2:=Fr.PF.call HB.out HF.out hr hps;replace HF2:=Fr.Fm.since HF.out HF2 hd5;replace HF2:=Fr.Fm.since HF.out HF2 hd4;replace HF2:=Fr.Fm.since HF.out HF2 hd3;replace HF2:=Fr.Fm.since HF.out HF2 hd2;replace HF2:=Fr.Fm.since HF.out HF2 hd1;replace HF2:=Fr.Fm.since HF.out HF2 hd0;replace HF:=hid HF2;clear HF2 hr hps hx hd0 hd1 hd2 hd3 hd4 hd5));rotate_left;(focus((try simp only [hx,↓reduceIte,Fr.bB]at HX);have HR:=hid (rd_trans HF.out.gr hr);clear hr hx));rotate_left)|((with_reducible refine Fr.is_lit ?_);(refine Fr.wl_lit1 HF.out Tryz.underlying65 tyT (by simp) (by simp) rfl rfl rfl (tyD ta) ?_ ?_);(focus(rw [hD];(repeat' (first|exact Da.row_nil _ _|exact Da.Is.int _|exact Da.Is.str _|(refine HF.out.isM ?_;simp;done)|refine Da.row_cons ?_ ?_))));intro b W1 HF1;replace HF:=hid HF1;clear HF1))
 all_goals first|(exact⟨rfl,HR.out,.inr ⟨_,HX.out,rfl⟩⟩)|skip
 ·obtain⟨Y,hY⟩:∃ Y,Y=Tr.manyC [59] (Tr.fieldsP en r) (l.length+1) l1:=⟨_,rfl⟩
  have HX1:=HX.out
  rw [← hY]at HX1
  replace HX:=hid HX1
  clear HX1
  rw [Tr.loopx_start]at hY
  have hlen:=HF.out.kp.len
  have hle:l1.length≤l.length:=by have:=HL.out;omega
  have hlc:l1.length+(0+1)≤l.length:=by have:=HL.out;omega
  have HY:=hid (show Y=LoopX [59] (Tr.fieldsP en r) [] true l1 l.length∧l1.length≤l.length∧l1.length+(0+1)≤l.length∧([]:List (List (List UInt8 × Bool × Tr.Ty × Int))).flatten.length+l1.length≤6000∧(true=true∨([]:List (List (List UInt8 × Bool × Tr.Ty × Int))) ≠ [])from⟨hY,hle,hlc,by simpa using hlen,.inl rfl⟩)
  clear hY
  try simp only [Act.put,zA,z0,z1]
  go_loopg [5] (Tr.meas true l1) (fun g v5 wr=>∃(acc:List (List (List UInt8 × Bool × Tr.Ty × Int))) (more:Bool) (lc:List Tr.Tok) (fu:Nat) (vl:Value),g=Tr.meas more lc∧v5=.bool more∧RowKit.Hid (Fr.PF w B bp en lc wr [.blk b3 (Fr.cTy 3 [] [] (.slice none 0 0) (.slice none 0 0) (.slice (some ⟨b,0,none⟩) 1 1) vl (.slice none 0 0) (.slice none 0 0) q2),.row vl 129 13 (Tr.fdDs acc.flatten),.blk b2 Fr.zT] [(.slice (some ⟨b,0,none⟩) 1 1,.list 10 [tyD ta])])∧RowKit.Hid (Y=LoopX [59] (Tr.fieldsP en r) acc more lc fu∧lc.length≤fu∧lc.length+(0+1)≤l.length∧acc.flatten.length+lc.length≤6000∧(more=true∨acc ≠ [])))
  case atStart=>exact⟨[],true,l1,l.length,.slice none 0 0,rfl,rfl,hid ((HF.out.own 129 13).pick [1,0,2] [0] (by decide) (by simp) (by simp)),HY⟩
  case round =>
   clear HF HY HL
   obtain⟨acc,more,lc,fu,vl,hg,hm,HF,HY⟩:=hrel
   subst hm
   cases more with
   | false =>
    have HX1:=HX.out
    rw [HY.out.1,Tr.loopx_end,Fr.bind_ok]at HX1
    replace HX:=hid HX1
    have HL:=hid HY.out.2.2.1
    clear HX1 hg HY
    go_wp2_with (first|(first|((with_reducible refine is_store (T:=123) ?_);((refine Fr.wl_store 2 HF.out tyT rfl rfl rfl rfl rfl (z4 rfl) (by repeat' (first|exact z3 _|refine z2 ?_ ?_|rfl|exact HF.out.rowOne 1 rfl)) ?_));intro W1 HF1;simp only [setL,z0,z1]at HF1;replace HF:=hid HF1;clear HF1))|(first|((with_reducible refine Fr.is_load (T:=123) ?_);(first|(refine Fr.wl_load 0 HF.out rfl rfl Tryz.underlying123 rfl tyT rfl ?_))))|(go_at_call 98;(with_reducible refine(skip_any _ B bp en _ _ HF.out.kp).mono ?_);rintro e W1 ⟨hr,⟨_,l1,v,hx,hps,rfl,rfl⟩|⟨q,hx,rfl⟩⟩;(focus((try simp only [hx,↓reduceIte,Fr.bB]at HX);replace HL:=hid (con_add (Tr.con_skip en _ _) hx HL.out);replace HF:=hid (Fr.PF.call HB.out HF.out hr hps);clear hr hps hx));rotate_left;(focus((try simp only [hx,↓reduceIte,Fr.bB]at HX);have HR:=hid (rd_trans HF.out.gr hr);clear hr hx));rotate_left))
    all_goals first|(exact⟨rfl,HR.out,.inr ⟨_,HX.out,rfl⟩⟩)|skip
    replace HF:=hid (HF.out.close (k:=1) rfl)
    refine bodyPost_ret (Fr.fm_results 2 HF.out Tryz.results148 rfl rfl Tryz.underlying123 rfl tyT rfl) rfl ?_
    refine⟨Fr.PF.rd HF.out,.inl ⟨_,_,_,HX.out,Fr.PF.ps HF.out,rfl,_,rfl,?_⟩⟩
    first|(rw [hD];(repeat' (exact Da.row_nil _ _));done)|(simp only [tyD,Tr.exDs,Tr.tyDs,Tr.fdDs];(repeat' (first|exact Da.row_nil _ _|exact Da.Is.int _|exact Da.Is.str _|exact Fr.is_nil _|exact HF.out.out 0 rfl|exact HF.out.out 1 rfl|refine Da.row_cons ?_ ?_)))
   | true =>
    have HG:=hid hg
    clear hg
    have HM:=hid (HY.out.2.2.1)
    have HL:=hid (show lc.length+0≤lc.length from Nat.le_refl _)
    obtain⟨Z,hZ⟩:∃ Z,Z=Tr.fieldsP en r lc:=⟨_,rfl⟩
    have HZ:=hid hZ
    have HO:=HX
    replace HX:=hid hZ
    have HAc:=hid HY.out.2.2.2.1
    clear hZ
    go_wp2
    all_goals first|(exact⟨rfl,HR.out,.inr ⟨_,Fr.loop_no HO.out HY.out.1 (HZ.out ▸ HX.out),rfl⟩⟩)|skip
    replace HF:=hid HF.out.drew
    refine wp_region_G (UpTo 6 (fun X=>b3<X.heap.size∧X.cell? ⟨b3,6,none⟩=some vl)) 7 (by kernel_rfl) (by kernel_rfl) (fun _=>⟨HF.out.ltAt 0 rfl,HF.out.cellAt 0 rfl 6 rfl⟩) (fun _ hS=>?_)
    generalize World.drew _=W1 at HF hS ⊢
    refine tkM (n:=7) (is:=[0]) (k:=1) rfl (by kernel_rfl) hS ?_
    repeat(refine wT (v:=?_) rfl (by rfl) (fun X xb=>?_) ?_;rotate_left 1;(focus(go_simp;try with_reducible rfl));try simp only [Act.put,zA,z0,z1])
    refine wE fun hS=>?_
    refine Fr.tkB (n:=7) (is:=[1]) [[1]] (k:=1) rfl (by kernel_rfl) hS ?_
    repeat(refine wT (v:=?_) rfl (by rfl) (fun X xb=>?_) ?_;rotate_left 1;(focus(go_simp;try with_reducible rfl));try simp only [Act.put,zA,z0,z1])
    refine wE fun hS=>?_
    refine tkM (n:=7) (is:=[2]) (k:=1) rfl (by kernel_rfl) hS ?_
    repeat(refine wT (v:=?_) rfl (by rfl) (fun X xb=>?_) ?_;rotate_left 1;(focus(go_simp;try with_reducible rfl));try simp only [Act.put,zA,z0,z1])
    refine wE fun hS=>?_
    refine rd1 (i:=3) (by kernel_rfl) (.cons rfl (fun K hK=>?_) .nil)
    go_simp
    (go_at_call 187;(with_reducible refine(fields_any en n r HC.out _ B bp _ (by have h1:=HL.out;have h2:=HN.out;(try have h3:=HM.out);omega) HF.out.kp).mono ?_);rintro e W1 ⟨hr,⟨ta,l1,v,hx,hps,rfl,hV⟩|⟨q,hx,rfl⟩⟩;(focus(have hd0:=hV;(try simp only [hx,↓reduceIte,Fr.bB]at HX);replace HL:=hid (Fr.suf_add (Tr.suf_fields en HC.out.ce.rg _) hx HL.out);have HF2:=Fr.PF.call HB.out HF.out hr hps;replace HF2:=Fr.Fm.since HF.out HF2 hd0;replace HF:=hid HF2;clear HF2 hr hps hx hd0));rotate_left;(focus((try simp only [hx,↓reduceIte,Fr.bB]at HX);have HR:=hid (rd_trans HF.out.gr hr);clear hr hx));rotate_left)
    rotate_left
    ·go_simp
     exact⟨rfl,HR.out,.inr ⟨_,Fr.loop_no HO.out HY.out.1 (HZ.out ▸ HX.out),rfl⟩⟩
    go_simp
    refine hK.out _ _ (fun _=>⟨HF.out.ltAt 0 rfl,HF.out.cellAt 0 rfl 6 rfl⟩) fun hS=>?_;clear hK K
    try simp only [Act.put,zA,z0,z1]
    refine rd1 (i:=4) (by kernel_rfl) (.cons rfl (fun K hK=>?_) .nil)
    refine(if_pos (by rfl)).mpr ?_
    refine Fr.ow_append 1 0 HF.out Tryz.underlying121 Fr.tyF (by simp) (by simp) rfl rfl rfl rfl rfl rfl ?_ ?_
    focus(have h1:=HAc.out;have h2:=Fr.cnt_fields HC.out.ce.rg _ _ _ (HZ.out.symm.trans HX.out);rw [Fr.fdDs_len,Fr.fdDs_len];omega)
    intro v1 W1 HF1
    simp only [setL,z0,z1]at HF1;replace HF:=hid HF1;clear HF1
    refine hK.out _ _ (fun _=>⟨HF.out.ltAt 0 rfl,HF.out.cellAt 0 rfl 6 rfl⟩) fun hS=>?_;clear hK K
    try simp only [Act.put,zA,z0,z1]
    refine tkM (n:=7) (is:=[5]) (k:=1) rfl (by kernel_rfl) hS ?_
    repeat(refine wT (v:=?_) rfl (by rfl) (fun X xb=>?_) ?_;rotate_left 1;(focus(go_simp;try with_reducible rfl));try simp only [Act.put,zA,z0,z1])
    refine wE fun hS=>?_
    refine rd1 (i:=6) (by kernel_rfl) (.cons rfl (fun K hK=>?_) .nil)
    refine(if_pos (by rfl)).mpr ?_
    (first|((refine Fr.ow_store1 0 HF.out Fr.tySF rfl rfl rfl rfl rfl rfl ?_ ?_);(focus(exact HF.out.rowOne 1 rfl))))
    intro W1 HF1
    simp only [setL,z0,z1]at HF1;replace HF:=hid HF1;clear HF1
    refine hK.out _ _ (fun h=>absurd h (by simp [Fr.setAll])) fun hS=>?_;clear hK K
    try simp only [Act.put,zA,z0,z1]
    refine wpAnyG_done (by kernel_rfl) ?_ _
    clear hS
    go_wp2_with (first
     | (go_at_call 100;(with_reducible refine(took_any _ B bp en _ [59] HF.out.kp).mono ?_);rintro e W1 ⟨rfl,hr,hps⟩;have HL0:=HL;replace HL:=hid (Fr.took_add [59] HL.out);replace HF:=hid (Fr.PF.call HB.out HF.out hr hps);clear hr hps))
    obtain⟨fu',h1,h2,h3,h4,h5⟩:=Fr.loop_okm (w:=[59]) HY.out (HZ.out.symm.trans HX.out) (show l1.length≤lc.length by have:=HL0.out;omega) (Fr.cnt_fields HC.out.ce.rg _ _ _ (HZ.out.symm.trans HX.out))
    go_roundg (Tr.meas (Tr.isS [59] l1) (Tr.took [59] l1).2)
    case rel=>exact⟨_,_,_,fu',_,rfl,rfl,hid (by rw [List.flatten_append,List.flatten_cons,List.flatten_nil,List.append_nil,← Fr.fdDs_app];exact HF.out.pick [0,1,2] [1] (by decide) (by simp) (by simp)),hid ⟨h1,h2,h3,h4,h5⟩⟩
    case measure=>rw [HG.out];exact Fr.meas_le (show l1.length≤lc.length by have:=HL0.out;omega)
end Go.Proofs.YtlhmkfcbldghfaaGreatDoor
