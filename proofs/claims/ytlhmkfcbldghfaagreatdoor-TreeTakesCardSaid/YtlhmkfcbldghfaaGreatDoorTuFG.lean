/- The walk of tree's parser's arms. Conditions: the parser's block is as it is made;shorter texts are read as they should be. -/
import Derived.Test.YtlhmkfcbldghfaaGreatDoorTuEb
import Derived.Test.YtlhmkfcbldghfaaGreatDoorFmY
import Derived.Deep.CutRange
namespace Go.Proofs.YtlhmkfcbldghfaaGreatDoor
set_option linter.all false
open Go.Lib (hid)
set_option maxRecDepth 1000000
set_option maxHeartbeats 16000000
open Go.RowKit
open Fr (con_add dzE exDs_len' loop_no ow_lit1 ow_store1 setL tkB tkM tyE tySE tySS wE wT)
open Tr (LoopX blDs con_expr exD exDs exprP rd_trans)
namespace Fr
open Da Tr
def arm(en:Int)(r:Rc)(wd:List UInt8)(l:List Tok):Tr.R (Ex × List St):=(exprP en r l).bind fun e l1=>(skip en wd l1).bind fun _ l2=>(r.st l2).bind fun s l3 => .ok (e,s) l3
theorem bind_pure{α:Type}(x:Tr.R α):x.bind (fun a l => .ok a l)=x:=by cases x <;> rfl
theorem arms_arm(en:Int)(r:Rc)(wd:List UInt8)(l:List Tok):armsP en r wd l=(manyC [69,76,83,73,70] (arm en r wd) (l.length+1) l).bind fun a l => .ok a l:=by rw [bind_pure];rfl
theorem blDs_snoc(xs:List (List St))(x:List St):blDs (xs++[x])=blDs xs++[[.list 6 (stDs x)]]:=by rw [blDs_map,blDs_map,List.map_append];rfl
theorem blDs_len(xs:List (List St)):(blDs xs).length=xs.length:=by rw [blDs_map,List.length_map]
end Fr
theorem arms_any(en:Int)(n:Nat)(r:Tr.Rc)(hC:Fr.CR en n r)(hE:Fr.CV 147 en n (exprP en r) Tr.VEx)(wd:List UInt8)(w0 w:World)(B bp sb:Nat)(k:Int)(nm:List UInt8)(p:Int)(l:List Tr.Tok)(hB:B≤w0.heap.size)(hl:l.length≤n)
  (hf:Fr.PF w0 B bp en l w [.blk sb [.int .i64 k,.string ⟨nm.toArray⟩,.slice none 0 0,.slice none 0 0,.slice none 0 0,.int .i64 p]] []) :
  Calls Tryz.prog 190 #[.pointer (some ⟨bp,0,none⟩),.pointer (some ⟨sb,0,none⟩),.string ⟨wd.toArray⟩] w fun e w' =>
   (∃ ag l' ve vb,Tr.armsP en r wd l=.ok ag l'∧e=.returned (.tuple #[])∧Fr.PF w0 B bp en l' w' [.blk sb [.int .i64 k,.string ⟨nm.toArray⟩,ve,.slice none 0 0,vb,.int .i64 p],.row ve 53 6 (exDs (ag.map (·.1))),.row vb 28 1 (blDs (ag.map (·.2)))] []) ∨
   (∃ q,Tr.armsP en r wd l=.no q∧e=Tr.gone q∧Tr.Rd w0 bp w'):=by
 obtain⟨X,hX⟩:∃ X,X=Tr.armsP en r wd l:=⟨_,rfl⟩
 rw [show Tr.armsP en r wd l=X from hX.symm]
 rw [Fr.arms_arm]at hX
 obtain⟨Y,hY⟩:∃ Y,Y=Tr.manyC [69,76,83,73,70] (Fr.arm en r wd) (l.length+1) l:=⟨_,rfl⟩
 rw [← hY]at hX
 rw [Tr.loopx_start]at hY
 have HX:=hid hX
 have HB:=hid hB
 have HF:=hid hf
 have HL:=hid (show l.length+0≤l.length from Nat.le_refl _)
 have HN:=hid hl
 have HC:=hid hC
 have HE:=hid hE
 have hlen:=(Fr.PF.ps hf).len
 clear hX hl hB hf hC hE
 go_enter Tryz.func190,Tryz.ntmps190
 go_wp2
 have HY:=hid (show Y=LoopX [69,76,83,73,70] (Fr.arm en r wd) [] true l l.length∧l.length≤l.length∧l.length+0≤l.length∧([]:List (Tr.Ex × List Tr.St)).length+l.length≤6000∧(true=true∨([]:List (Tr.Ex × List Tr.St)) ≠ [])from⟨hY,Nat.le_refl _,Nat.le_refl _,by simpa using hlen,.inl rfl⟩)
 clear hY
 try simp only [Act.put,zA,z0,z1]
 go_loopg [6] (Tr.meas true l) (fun g v6 wr=>∃(acc:List (Tr.Ex × List Tr.St)) (more:Bool) (lc:List Tr.Tok) (fu:Nat) (vl vm:Value),g=Tr.meas more lc∧v6=.bool more∧RowKit.Hid (Fr.PF w0 B bp en lc wr [.blk sb [.int .i64 k,.string ⟨nm.toArray⟩,vl,.slice none 0 0,vm,.int .i64 p],.row vl 53 6 (exDs (acc.map (·.1))),.row vm 28 1 (blDs (acc.map (·.2)))] [])∧RowKit.Hid (Y=LoopX [69,76,83,73,70] (Fr.arm en r wd) acc more lc fu∧lc.length≤fu∧lc.length+0≤l.length∧acc.length+lc.length≤6000∧(more=true∨acc ≠ [])))
 case atStart=>exact⟨[],true,l,l.length,.slice none 0 0,.slice none 0 0,rfl,rfl,hid (((HF.out.own 28 1).own 53 6).pick [2,0,1] [] (by decide) (by simp) (by simp)),HY⟩
 case round =>
  clear HF HY HL
  obtain⟨acc,more,lc,fu,vl,vm,hg,hm,HF,HY⟩:=hrel
  subst hm
  cases more with
  | false =>
   have HX1:=HX.out
   rw [HY.out.1,Tr.loopx_end,Fr.bind_ok]at HX1
   replace HX:=hid HX1
   clear HX1 hg HY
   go_wp2
   go_end0
   exact .inl ⟨_,_,_,_,HX.out,rfl,HF.out⟩
  | true =>
   have HG:=hid hg
   clear hg
   have HM:=hid (HY.out.2.2.1)
   have HL:=hid (show lc.length+0≤lc.length from Nat.le_refl _)
   obtain⟨Z,hZ⟩:∃ Z,Z=Fr.arm en r wd lc:=⟨_,rfl⟩
   have HZ:=hid hZ
   unfold Fr.arm at hZ
   have HO:=HX
   replace HX:=hid hZ
   have HAc:=hid HY.out.2.2.2.1
   clear hZ
   go_wp2
   all_goals first|(exact⟨rfl,.inr ⟨_,loop_no HO.out HY.out.1 (HZ.out ▸ HX.out),rfl,HR.out⟩⟩)|skip
   obtain⟨pl,cl,rfl⟩:=HF.out.rowSlice (k:=1) rfl
   rw [show(exDs (acc.map (·.1))).length=acc.length by simp [exDs_len']]at *
   have hal:acc.length≤6000:=by have:=HAc.out;omega
   have hai:(acc.length:Int)≤6000:=by omega
   have hlt1:(acc.length:Int)<(acc.length:Int)+1:=by omega
   
   go_cut []from 7 to 35 (fun wc=>∃(ta:Tr.Ex) (l1:List Tr.Tok) (ve:Value),RowKit.Hid (Z=(Tr.skip en wd l1).bind fun _ l2=>(r.st l2).bind fun s l3 => .ok (ta,s) l3)∧RowKit.Hid (l1.length+(0+1)≤lc.length)∧RowKit.Hid (Fr.PF w0 B bp en l1 wc [.blk sb [.int .i64 k,.string ⟨nm.toArray⟩,ve,.slice none 0 0,vm,.int .i64 p],.row ve 53 6 (exDs (acc.map (·.1))++[exD ta]),.row vm 28 1 (blDs (acc.map (·.2)))] []))
   case first =>
    replace HF:=hid HF.out.drew
    refine wp_region_G (UpTo 13 (fun X=>sb<X.heap.size∧X.cell? ⟨sb,2,none⟩=some (.slice pl acc.length cl))) 14 (by kernel_rfl) (by kernel_rfl) (fun _=>⟨HF.out.ltAt 0 rfl,HF.out.cellAt 0 rfl 2 rfl⟩) (fun _ hS=>?_)
    generalize World.drew _=W1 at HF hS ⊢
    refine tkM (n:=14) (is:=[0,1,2]) (k:=3) rfl (by kernel_rfl) hS ?_
    repeat(refine wT (v:=?_) rfl (by rfl) (fun X xb=>?_) ?_;rotate_left 1;(focus(go_simp;try with_reducible rfl));try simp only [Act.put,zA,z0,z1])
    refine wE fun hS=>?_
    refine tkB (n:=14) (is:=[3]) [[3]] (k:=1) rfl (by kernel_rfl) hS ?_
    repeat(refine wT (v:=?_) rfl (by rfl) (fun X xb=>?_) ?_;rotate_left 1;(focus(go_simp;try with_reducible rfl));try simp only [Act.put,zA,z0,z1])
    refine wE fun hS=>?_
    refine tkM (n:=14) (is:=[4,6]) (k:=2) rfl (by kernel_rfl) hS ?_
    repeat(refine wT (v:=?_) rfl (by rfl) (fun X xb=>?_) ?_;rotate_left 1;(focus(go_simp;try with_reducible rfl));try simp only [Act.put,zA,z0,z1])
    refine wE fun hS=>?_
    refine wpAnyG_ready (rs:=[5,7]) (by kernel_rfl) (by simp) ?_
    refine AllReadyG.cons rfl (fun K hK=>?_) (AllReadyG.cons rfl (fun K hK=>?_) AllReadyG.nil)
    ·skip
     go_simp
     (go_at_call 147;(with_reducible refine(HE.out _ B bp _ (by have h1:=HL.out;have h2:=HN.out;(try have h3:=HM.out);omega) HF.out.kp).mono ?_);rintro e W1 ⟨hr,⟨ta,l1,v,hx,hps,rfl,hV⟩|⟨q,hx,rfl⟩⟩;(focus(obtain⟨k0,n0,tx0,op0,xs0,p0,va,rfl,hD,hdp,hd0⟩:=Fr.VEx.parts hV;(try simp only [hx,↓reduceIte,Fr.bB]at HX);replace HL:=hid (con_add (con_expr en HC.out.ce.rg _) hx HL.out);have HF2:=Fr.PF.call HB.out HF.out hr hps;replace HF2:=Fr.Fm.since HF.out HF2 hd0;replace HF:=hid HF2;clear HF2 hr hps hx hd0));rotate_left;(focus((try simp only [hx,↓reduceIte,Fr.bB]at HX);have HR:=hid (rd_trans HF.out.gr hr);clear hr hx));rotate_left)
     rotate_left
     ·go_simp
      exact⟨rfl,.inr ⟨_,loop_no HO.out HY.out.1 (HZ.out ▸ HX.out),rfl,HR.out⟩⟩
     go_simp
     refine hK.out _ _ (fun _=>⟨HF.out.ltAt 0 rfl,HF.out.cellAt 0 rfl 2 rfl⟩) fun hS=>?_;clear hK K
     try simp only [Act.put,zA,z0,z1]
     refine rd1 (i:=7) (by kernel_rfl) (.cons rfl (fun K hK=>?_) .nil)
     refine(if_pos (by rfl)).mpr ?_
     refine ow_lit1 HF.out Tryz.underlying47 tyE (by simp) (by simp) rfl rfl rfl rfl (row:=dzE) Fr.row_zE ?_
     intro b1 W1 HF1
     replace HF:=hid HF1;clear HF1
     refine hK.out _ _ (fun _=>⟨HF.out.ltAt 0 rfl,HF.out.cellAt 0 rfl 2 rfl⟩) fun hS=>?_;clear hK K
     try simp only [Act.put,zA,z0,z1]
     refine rd1 (i:=8) (by kernel_rfl) (.cons rfl (fun K hK=>?_) .nil)
     refine(if_pos (by rfl)).mpr ?_
     refine Fr.ow_append 1 0 HF.out Tryz.underlying47 tyE (by simp) (by simp) rfl rfl rfl rfl rfl rfl ?_ ?_
     focus(have h1:=HAc.out;rw [exDs_len'];simp;omega)
     intro v1 W1 HF1
     simp only [setL,z0,z1]at HF1
     obtain⟨bl,cap,rfl,hcp,hcm⟩:∃ b cap:Nat,v1=.slice (some ⟨b,0,none⟩) (acc.length+1) cap∧acc.length+1≤cap∧cap≤maxLen:=by
      rcases HF1.rowForm (k:=1) rfl with⟨h,_⟩|h
      ·simp at h
      ·simpa [exDs_len']using h
     replace HF:=hid HF1
     clear HF1
     refine hK.out _ _ (fun _=>⟨HF.out.ltAt 0 rfl,HF.out.cellAt 0 rfl 2 rfl⟩) fun hS=>?_;clear hK K
     try simp only [Act.put,zA,z0,z1]
     refine tkM (n:=14) (is:=[9,11,12]) (k:=3) rfl (by kernel_rfl) hS ?_
     repeat(refine wT (v:=?_) rfl (by rfl) (fun X xb=>?_) ?_;rotate_left 1;(focus(go_simp;try with_reducible rfl));try simp only [Act.put,zA,z0,z1])
     refine wE fun hS=>?_
     refine wpAnyG_ready (rs:=[10,13]) (by kernel_rfl) (by simp) ?_
     refine AllReadyG.cons rfl (fun K hK=>?_) (AllReadyG.cons rfl (fun K hK=>?_) AllReadyG.nil)
     ·skip
      refine(if_pos (by rfl)).mpr ?_
      refine Fr.ow_storeRow 1 HF.out tyE rfl rfl rfl acc.length 0 (by first|rfl|simp|omega) (row:=dzE) (by simp [exDs_len']) (by rw [hD];simp) rfl rfl rfl (nd:=exD ta) ?_ ?_
      focus(rw [hD];(repeat' (first|exact Da.row_nil _ _|exact Da.Is.int _|exact Da.Is.str _|exact HF.out.da 1 _ _ rfl|refine Da.row_cons ?_ ?_)))
      intro W1 HF1
      rw [Fr.set_zE hD]at HF1
      simp only [z0,z1]at HF1
      replace HF:=hid HF1;clear HF1
      refine hK.out _ _ (fun _=>⟨HF.out.ltAt 0 rfl,HF.out.cellAt 0 rfl 2 rfl⟩) fun hS=>?_;clear hK K
      try simp only [Act.put,zA,z0,z1]
      refine rd1 (i:=13) (by kernel_rfl) (.cons rfl (fun K hK=>?_) .nil)
      refine(if_pos (by rfl)).mpr ?_
      (first|((refine ow_store1 0 HF.out tySE rfl rfl rfl rfl rfl rfl ?_ ?_);(focus(rfl))))
      intro W1 HF1
      simp only [setL,z0,z1]at HF1;replace HF:=hid HF1;clear HF1
      refine hK.out _ _ (fun h=>absurd h (by simp [Fr.setAll])) fun hS=>?_;clear hK K
      try simp only [Act.put,zA,z0,z1]
      refine wpAnyG_done (by kernel_rfl) ?_ _
      clear hS
      go_wp2
      go_meet
      case rel=>exact⟨ta,l1,_,HX,HL,hid (by have h1:=HF.out;rw [show acc.length=(exDs (acc.map (·.1))).length by simp [exDs_len'],Fr.last_set]at h1;exact h1.pick [0,1,2] [] (by decide) (by simp) (by simp))⟩
     ·skip
      refine(if_pos (by rfl)).mpr ?_
      (first|((refine ow_store1 0 HF.out tySE rfl rfl rfl rfl rfl rfl ?_ ?_);(focus(rfl))))
      intro W1 HF1
      simp only [setL,z0,z1]at HF1;replace HF:=hid HF1;clear HF1
      refine hK.out _ _ (fun h=>absurd h (by simp [Fr.setAll])) fun hS=>?_;clear hK K
      try simp only [Act.put,zA,z0,z1]
      refine rd1 (i:=10) (by kernel_rfl) (.cons rfl (fun K hK=>?_) .nil)
      refine(if_pos (by rfl)).mpr ?_
      refine Fr.ow_storeRow 1 HF.out tyE rfl rfl rfl acc.length 0 (by first|rfl|simp|omega) (row:=dzE) (by simp [exDs_len']) (by rw [hD];simp) rfl rfl rfl (nd:=exD ta) ?_ ?_
      focus(rw [hD];(repeat' (first|exact Da.row_nil _ _|exact Da.Is.int _|exact Da.Is.str _|exact HF.out.da 1 _ _ rfl|refine Da.row_cons ?_ ?_)))
      intro W1 HF1
      rw [Fr.set_zE hD]at HF1
      simp only [z0,z1]at HF1
      replace HF:=hid HF1;clear HF1
      refine hK.out _ _ (fun h=>absurd h (by simp [Fr.setAll])) fun hS=>?_;clear hK K
      try simp only [Act.put,zA,z0,z1]
      refine wpAnyG_done (by kernel_rfl) ?_ _
      clear hS
      go_wp2
      go_meet
      case rel=>exact⟨ta,l1,_,HX,HL,hid (by have h1:=HF.out;rw [show acc.length=(exDs (acc.map (·.1))).length by simp [exDs_len'],Fr.last_set]at h1;exact h1.pick [0,1,2] [] (by decide) (by simp) (by simp))⟩
    ·skip
     refine(if_pos (by rfl)).mpr ?_
     refine ow_lit1 HF.out Tryz.underlying47 tyE (by simp) (by simp) rfl rfl rfl rfl (row:=dzE) Fr.row_zE ?_
     intro b1 W1 HF1
     replace HF:=hid HF1;clear HF1
     refine hK.out _ _ (fun _=>⟨HF.out.ltAt 0 rfl,HF.out.cellAt 0 rfl 2 rfl⟩) fun hS=>?_;clear hK K
     try simp only [Act.put,zA,z0,z1]
     refine rd1 (i:=5) (by kernel_rfl) (.cons rfl (fun K hK=>?_) .nil)
     go_simp
     (go_at_call 147;(with_reducible refine(HE.out _ B bp _ (by have h1:=HL.out;have h2:=HN.out;(try have h3:=HM.out);omega) HF.out.kp).mono ?_);rintro e W1 ⟨hr,⟨ta,l1,v,hx,hps,rfl,hV⟩|⟨q,hx,rfl⟩⟩;(focus(obtain⟨k0,n0,tx0,op0,xs0,p0,va,rfl,hD,hdp,hd0⟩:=Fr.VEx.parts hV;(try simp only [hx,↓reduceIte,Fr.bB]at HX);replace HL:=hid (con_add (con_expr en HC.out.ce.rg _) hx HL.out);have HF2:=Fr.PF.call HB.out HF.out hr hps;replace HF2:=Fr.Fm.since HF.out HF2 hd0;replace HF:=hid HF2;clear HF2 hr hps hx hd0));rotate_left;(focus((try simp only [hx,↓reduceIte,Fr.bB]at HX);have HR:=hid (rd_trans HF.out.gr hr);clear hr hx));rotate_left)
     rotate_left
     ·go_simp
      exact⟨rfl,.inr ⟨_,loop_no HO.out HY.out.1 (HZ.out ▸ HX.out),rfl,HR.out⟩⟩
     go_simp
     refine hK.out _ _ (fun _=>⟨HF.out.ltAt 0 rfl,HF.out.cellAt 0 rfl 2 rfl⟩) fun hS=>?_;clear hK K
     try simp only [Act.put,zA,z0,z1]
     refine rd1 (i:=8) (by kernel_rfl) (.cons rfl (fun K hK=>?_) .nil)
     refine(if_pos (by rfl)).mpr ?_
     refine Fr.ow_append 1 1 HF.out Tryz.underlying47 tyE (by simp) (by simp) rfl rfl rfl rfl rfl rfl ?_ ?_
     focus(have h1:=HAc.out;rw [exDs_len'];simp;omega)
     intro v1 W1 HF1
     simp only [setL,z0,z1]at HF1
     obtain⟨bl,cap,rfl,hcp,hcm⟩:∃ b cap:Nat,v1=.slice (some ⟨b,0,none⟩) (acc.length+1) cap∧acc.length+1≤cap∧cap≤maxLen:=by
      rcases HF1.rowForm (k:=1) rfl with⟨h,_⟩|h
      ·simp at h
      ·simpa [exDs_len']using h
     replace HF:=hid HF1
     clear HF1
     refine hK.out _ _ (fun _=>⟨HF.out.ltAt 0 rfl,HF.out.cellAt 0 rfl 2 rfl⟩) fun hS=>?_;clear hK K
     try simp only [Act.put,zA,z0,z1]
     refine tkM (n:=14) (is:=[9,11,12]) (k:=3) rfl (by kernel_rfl) hS ?_
     repeat(refine wT (v:=?_) rfl (by rfl) (fun X xb=>?_) ?_;rotate_left 1;(focus(go_simp;try with_reducible rfl));try simp only [Act.put,zA,z0,z1])
     refine wE fun hS=>?_
     refine wpAnyG_ready (rs:=[10,13]) (by kernel_rfl) (by simp) ?_
     refine AllReadyG.cons rfl (fun K hK=>?_) (AllReadyG.cons rfl (fun K hK=>?_) AllReadyG.nil)
     ·skip
      refine(if_pos (by rfl)).mpr ?_
      refine Fr.ow_storeRow 1 HF.out tyE rfl rfl rfl acc.length 0 (by first|rfl|simp|omega) (row:=dzE) (by simp [exDs_len']) (by rw [hD];simp) rfl rfl rfl (nd:=exD ta) ?_ ?_
      focus(rw [hD];(repeat' (first|exact Da.row_nil _ _|exact Da.Is.int _|exact Da.Is.str _|exact HF.out.da 0 _ _ rfl|refine Da.row_cons ?_ ?_)))
      intro W1 HF1
      rw [Fr.set_zE hD]at HF1
      simp only [z0,z1]at HF1
      replace HF:=hid HF1;clear HF1
      refine hK.out _ _ (fun _=>⟨HF.out.ltAt 0 rfl,HF.out.cellAt 0 rfl 2 rfl⟩) fun hS=>?_;clear hK K
      try simp only [Act.put,zA,z0,z1]
      refine rd1 (i:=13) (by kernel_rfl) (.cons rfl (fun K hK=>?_) .nil)
      refine(if_pos (by rfl)).mpr ?_
      (first|((refine ow_store1 0 HF.out tySE rfl rfl rfl rfl rfl rfl ?_ ?_);(focus(rfl))))
      intro W1 HF1
      simp only [setL,z0,z1]at HF1;replace HF:=hid HF1;clear HF1
      refine hK.out _ _ (fun h=>absurd h (by simp [Fr.setAll])) fun hS=>?_;clear hK K
      try simp only [Act.put,zA,z0,z1]
      refine wpAnyG_done (by kernel_rfl) ?_ _
      clear hS
      go_wp2
      go_meet
      case rel=>exact⟨ta,l1,_,HX,HL,hid (by have h1:=HF.out;rw [show acc.length=(exDs (acc.map (·.1))).length by simp [exDs_len'],Fr.last_set]at h1;exact h1.pick [0,1,2] [] (by decide) (by simp) (by simp))⟩
     ·skip
      refine(if_pos (by rfl)).mpr ?_
      (first|((refine ow_store1 0 HF.out tySE rfl rfl rfl rfl rfl rfl ?_ ?_);(focus(rfl))))
      intro W1 HF1
      simp only [setL,z0,z1]at HF1;replace HF:=hid HF1;clear HF1
      refine hK.out _ _ (fun h=>absurd h (by simp [Fr.setAll])) fun hS=>?_;clear hK K
      try simp only [Act.put,zA,z0,z1]
      refine rd1 (i:=10) (by kernel_rfl) (.cons rfl (fun K hK=>?_) .nil)
      refine(if_pos (by rfl)).mpr ?_
      refine Fr.ow_storeRow 1 HF.out tyE rfl rfl rfl acc.length 0 (by first|rfl|simp|omega) (row:=dzE) (by simp [exDs_len']) (by rw [hD];simp) rfl rfl rfl (nd:=exD ta) ?_ ?_
      focus(rw [hD];(repeat' (first|exact Da.row_nil _ _|exact Da.Is.int _|exact Da.Is.str _|exact HF.out.da 0 _ _ rfl|refine Da.row_cons ?_ ?_)))
      intro W1 HF1
      rw [Fr.set_zE hD]at HF1
      simp only [z0,z1]at HF1
      replace HF:=hid HF1;clear HF1
      refine hK.out _ _ (fun h=>absurd h (by simp [Fr.setAll])) fun hS=>?_;clear hK K
      try simp only [Act.put,zA,z0,z1]
      refine wpAnyG_done (by kernel_rfl) ?_ _
      clear hS
      go_wp2
      go_meet
      case rel=>exact⟨ta,l1,_,HX,HL,hid (by have h1:=HF.out;rw [show acc.length=(exDs (acc.map (·.1))).length by simp [exDs_len'],Fr.last_set]at h1;exact h1.pick [0,1,2] [] (by decide) (by simp) (by simp))⟩
   case rest =>
    clear HF HX HL
    obtain⟨te,l1,ve,HX,HL,HF⟩:=hcut
    go_wp2_with (first
     | (go_at_call 98;(with_reducible refine(skip_any _ B bp en _ _ HF.out.kp).mono ?_);rintro e W1 ⟨hr,⟨_,l2,v,hx,hps,rfl,rfl⟩|⟨q,hx,rfl⟩⟩;(focus((try simp only [hx,↓reduceIte,Fr.bB]at HX);replace HL:=hid (con_add (Tr.con_skip en _ _) hx HL.out);replace HF:=hid (Fr.PF.call HB.out HF.out hr hps);clear hr hps hx));rotate_left;(focus((try simp only [hx,↓reduceIte,Fr.bB]at HX);have HR:=hid (rd_trans HF.out.gr hr);clear hr hx));rotate_left))
    all_goals first|(exact⟨rfl,.inr ⟨_,loop_no HO.out HY.out.1 (HZ.out ▸ HX.out),rfl,HR.out⟩⟩)|skip
    replace HF:=hid HF.out.drew
    refine wp_region_G (UpTo 11 (fun X=>sb<X.heap.size∧X.cell? ⟨sb,4,none⟩=some vm)) 12 (by kernel_rfl) (by kernel_rfl) (fun _=>⟨HF.out.ltAt 0 rfl,HF.out.cellAt 0 rfl 4 rfl⟩) (fun _ hS=>?_)
    generalize World.drew _=W1 at HF hS ⊢
    refine tkM (n:=12) (is:=[0,1,2,3]) (k:=4) rfl (by kernel_rfl) hS ?_
    repeat(refine wT (v:=?_) rfl (by rfl) (fun X xb=>?_) ?_;rotate_left 1;(focus(go_simp;try with_reducible rfl));try simp only [Act.put,zA,z0,z1])
    refine wE fun hS=>?_
    refine tkB (n:=12) (is:=[4]) [[4]] (k:=1) rfl (by kernel_rfl) hS ?_
    repeat(refine wT (v:=?_) rfl (by rfl) (fun X xb=>?_) ?_;rotate_left 1;(focus(go_simp;try with_reducible rfl));try simp only [Act.put,zA,z0,z1])
    refine wE fun hS=>?_
    refine tkM (n:=12) (is:=[5]) (k:=1) rfl (by kernel_rfl) hS ?_
    repeat(refine wT (v:=?_) rfl (by rfl) (fun X xb=>?_) ?_;rotate_left 1;(focus(go_simp;try with_reducible rfl));try simp only [Act.put,zA,z0,z1])
    refine wE fun hS=>?_
    refine rd1 (i:=6) (by kernel_rfl) (.cons rfl (fun K hK=>?_) .nil)
    go_simp
    (go_at_call 104;(with_reducible refine(HC.out.st _ B bp _ (by have h1:=HL.out;have h2:=HN.out;(try have h3:=HM.out);omega) HF.out.kp).mono ?_);rintro e W1 ⟨hr,⟨ss,l1,v,hx,hps,rfl,hV⟩|⟨q,hx,rfl⟩⟩;(focus(have hd0:=hV;(try simp only [hx,↓reduceIte,Fr.bB]at HX);replace HL:=hid (Fr.suf_add (HC.out.ce.rg.st _) hx HL.out);have HF2:=Fr.PF.call HB.out HF.out hr hps;replace HF2:=Fr.Fm.since HF.out HF2 hd0;replace HF:=hid HF2;clear HF2 hr hps hx hd0));rotate_left;(focus((try simp only [hx,↓reduceIte,Fr.bB]at HX);have HR:=hid (rd_trans HF.out.gr hr);clear hr hx));rotate_left)
    rotate_left
    ·go_simp
     exact⟨rfl,.inr ⟨_,loop_no HO.out HY.out.1 (HZ.out ▸ HX.out),rfl,HR.out⟩⟩
    go_simp
    refine hK.out _ _ (fun _=>⟨HF.out.ltAt 0 rfl,HF.out.cellAt 0 rfl 4 rfl⟩) fun hS=>?_;clear hK K
    try simp only [Act.put,zA,z0,z1]
    refine rd1 (i:=7) (by kernel_rfl) (.cons rfl (fun K hK=>?_) .nil)
    refine(if_pos (by rfl)).mpr ?_
    refine ow_lit1 HF.out Tryz.underlying49 tySS (by simp) (by simp) rfl rfl (Fr.cells_one (HF.out.da 0 _ _ rfl).one) rfl (row:=[.list 6 (Tr.stDs ss)]) ?_ ?_
    focus((repeat' (first|exact Da.row_nil _ _|exact HF.out.da 0 _ _ rfl|refine Da.row_cons ?_ ?_)))
    intro b1 W1 HF1
    replace HF:=hid HF1;clear HF1
    refine hK.out _ _ (fun _=>⟨HF.out.ltAt 0 rfl,HF.out.cellAt 0 rfl 4 rfl⟩) fun hS=>?_;clear hK K
    try simp only [Act.put,zA,z0,z1]
    refine rd1 (i:=8) (by kernel_rfl) (.cons rfl (fun K hK=>?_) .nil)
    refine(if_pos (by rfl)).mpr ?_
    refine Fr.ow_append 2 0 HF.out Tryz.underlying49 tySS (by simp) (by simp) rfl rfl rfl rfl rfl rfl ?_ ?_
    focus(have h1:=HAc.out;rw [Fr.blDs_len];simp;omega)
    intro v1 W1 HF1
    simp only [setL,z0,z1]at HF1;replace HF:=hid HF1;clear HF1
    refine hK.out _ _ (fun _=>⟨HF.out.ltAt 0 rfl,HF.out.cellAt 0 rfl 4 rfl⟩) fun hS=>?_;clear hK K
    try simp only [Act.put,zA,z0,z1]
    refine tkM (n:=12) (is:=[9,10]) (k:=2) rfl (by kernel_rfl) hS ?_
    repeat(refine wT (v:=?_) rfl (by rfl) (fun X xb=>?_) ?_;rotate_left 1;(focus(go_simp;try with_reducible rfl));try simp only [Act.put,zA,z0,z1])
    refine wE fun hS=>?_
    refine rd1 (i:=11) (by kernel_rfl) (.cons rfl (fun K hK=>?_) .nil)
    refine(if_pos (by rfl)).mpr ?_
    (first|((refine ow_store1 0 HF.out Fr.tySSS rfl rfl rfl rfl rfl rfl ?_ ?_);(focus(exact HF.out.rowOne 2 rfl))))
    intro W1 HF1
    simp only [setL,z0,z1]at HF1;replace HF:=hid HF1;clear HF1
    refine hK.out _ _ (fun h=>absurd h (by simp [Fr.setAll])) fun hS=>?_;clear hK K
    try simp only [Act.put,zA,z0,z1]
    refine wpAnyG_done (by kernel_rfl) ?_ _
    clear hS
    go_wp2_with (first
     | (go_at_call 100;(with_reducible refine(took_any _ B bp en _ [69,76,83,73,70] HF.out.kp).mono ?_);rintro e W1 ⟨rfl,hr,hps⟩;have HL0:=HL;replace HL:=hid (Fr.took_add [69,76,83,73,70] HL.out);replace HF:=hid (Fr.PF.call HB.out HF.out hr hps);clear hr hps))
    obtain⟨fu',h1,h2,h3,h4,h5⟩:=Fr.loop_ok (w:=[69,76,83,73,70]) HY.out (HZ.out.symm.trans HX.out) (show l1.length<lc.length by have:=HL0.out;omega)
    go_roundg (Tr.meas (Tr.isS [69,76,83,73,70] l1) (Tr.took [69,76,83,73,70] l1).2)
    case rel=>exact⟨_,_,_,fu',_,_,rfl,rfl,hid (by rw [List.map_append,List.map_append,List.map_cons,List.map_nil,List.map_cons,List.map_nil,Fr.exDs_snoc,Fr.blDs_snoc];exact HF.out.pick [0,1,2] [] (by decide) (by simp) (by simp)),hid ⟨h1,h2,h3,h4,h5⟩⟩
    case measure=>rw [HG.out];exact Tr.meas_lt (show l1.length<lc.length by have:=HL0.out;omega)
namespace Fr
open Da Tr
def case1(en:Int)(r:Rc)(l:List Tok):Tr.R (Option (List Ex × List St)):=if startT l=0 then .ok none l else(labelsP (exprP en r) l).bind fun ls l1=>(skip en [58] l1).bind fun _ l2=>(r.st l2).bind fun s l3 => .ok (some (ls,s)) l3
def casesP(en:Int)(r:Rc)(p:Int)(fu:Nat)(l:List Tok):Tr.R (Option St):=(exprP en r l).bind fun e l1=>(skip en [79,70] l1).bind fun _ l2=>(manyC [124] (case1 en r) fu l2).bind fun cs l3 =>
 (skip en [69,78,68] l3).bind fun _ l4 => .ok (some (.mk 4 [] [e] ((cs.filterMap id).map (·.1)) ((cs.filterMap id).map (·.2)) p)) l4
def lbDs(ls:List (List Ex)):List (List D):=ls.map fun l=>[.list 6 (exDs l)]
theorem lbDs_snoc(xs:List (List Ex))(x:List Ex):lbDs (xs++[x])=lbDs xs++[[.list 6 (exDs x)]]:=by simp [lbDs]
theorem lbDs_len(xs:List (List Ex)):(lbDs xs).length=xs.length:=by simp [lbDs]
theorem start_split(w:World)(B bp:Nat)(en:Int)(l:List Tok)(hp:PS w B bp en l) :
  Calls Tryz.prog 221 #[.pointer (some ⟨bp,0,none⟩)] w fun e w'=>Below w.heap.size w w'∧((startT l=0∧e=.returned (.int .i64 0))∨∃ q,(startT l=0)=False∧e=.returned (.int .i64 q)∧(q == 0)=false):=
 (start_any w B bp en l hp).mono fun e w' ⟨he,g,hw⟩=>⟨by rw [hw];exact more_below w g,by
  by_cases h:startT l=0
  ·exact .inl ⟨h,by rw [he,h]⟩
  ·exact .inr ⟨startT l,by simp [h],he,by simpa using h⟩⟩
theorem cnt_case{en:Int}{r:Rc}(hr:Rg r)(l:List Tok)(o:Option (List Ex × List St))(l1:List Tok)(h:case1 en r l=.ok o l1):([o].filterMap id).length+l1.length≤l.length:=by
 unfold case1 at h
 by_cases hs:startT l=0
 ·rw [if_pos hs]at h;cases h;simp
 ·rw [if_neg hs]at h
  have hc:Con l ((labelsP (exprP en r) l).bind fun ls l1=>(skip en [58] l1).bind fun _ l2=>(r.st l2).bind fun s l3=>Tr.R.ok (some (ls,s)) l3):=
   con_bind (con_labels _ (con_expr en hr) _) fun _ _=>suf_bind (con_skip en _ _).suf fun _ _=>suf_bind (hr.st _) fun _ _=>suf_ok _ _
  obtain⟨x,t,e⟩:=hc _ _ h
  rw [e]
  cases o <;> simp <;> omega
theorem loop_oko{β:Type}{w:List UInt8}{F:List Tok→Tr.R (Option β)}{acc:List (Option β)}{lc l1:List Tok}{fu c0 N0:Nat}{a:Option β}{Y:Tr.R (List (Option β))}{E:Prop}(hY:Y=LoopX w F acc true lc fu∧lc.length≤fu∧lc.length+c0≤N0∧(acc.filterMap id).length+lc.length≤6000∧E)(h:F lc=.ok a l1)(hs:l1.length≤lc.length)(ha:([a].filterMap id).length+l1.length≤lc.length) :
  ∃ fu',Y=LoopX w F (acc++[a]) (isS w l1) (took w l1).2 fu'∧(took w l1).2.length≤fu'∧(took w l1).2.length+c0≤N0∧((acc++[a]).filterMap id).length+(took w l1).2.length≤6000∧(isS w l1=true∨acc++[a] ≠ []):=by
 obtain⟨h1,h2,h3,h4,_⟩:=hY
 obtain⟨fu',h5,h6⟩:=loopx_okm (w:=w) (acc:=acc) h h2 hs
 have h7:=took_len w l1
 refine⟨fu',h1.trans h5,h6,by omega,?_,.inr (by simp)⟩
 rw [List.filterMap_append,List.length_append]
 omega
theorem fm_some{β:Type}(acc:List (Option β))(a:β):(acc++[some a]).filterMap id=acc.filterMap id++[a]:=by simp
theorem fm_none{β:Type}(acc:List (Option β)):(acc++[none]).filterMap id=acc.filterMap id:=by simp
end Fr
theorem cases_any(en:Int)(n:Nat)(r:Tr.Rc)(hC:Fr.CR en n r)(hE:Fr.CV 147 en n (exprP en r) Tr.VEx)(w0 w:World)(B bp sb fu0:Nat)(p:Int)(l:List Tr.Tok)(hB:B≤w0.heap.size)(hl:l.length≤n)(hfu:l.length≤fu0)
  (hf:Fr.PF w0 B bp en l w [.blk sb [.int .i64 0,.string ⟨#[]⟩,.slice none 0 0,.slice none 0 0,.slice none 0 0,.int .i64 p]] []) :
  Calls Tryz.prog 191 #[.pointer (some ⟨bp,0,none⟩),.pointer (some ⟨sb,0,none⟩)] w fun e w' =>
   (∃ st l' k nm v2 v3 v4 d2 d3 d4 p',Fr.casesP en r p (fu0+1) l=.ok (some st) l'∧e=.returned (.tuple #[])∧Fr.PF w0 B bp en l' w' [.blk sb [.int .i64 k,.string nm,v2,v3,v4,.int .i64 p']] [(v2,d2),(v3,d3),(v4,d4)]∧Tr.stD st=[.int k,.str nm.data.toList,d2,d3,d4,.int p']) ∨
   (∃ q,Fr.casesP en r p (fu0+1) l=.no q∧e=Tr.gone q∧Tr.Rd w0 bp w'):=by
 obtain⟨X,hX⟩:∃ X,X=Fr.casesP en r p (fu0+1) l:=⟨_,rfl⟩
 rw [show Fr.casesP en r p (fu0+1) l=X from hX.symm]
 unfold Fr.casesP at hX
 have HX:=hid hX
 have HB:=hid hB
 have HF:=hid hf
 have HL:=hid (show l.length+0≤l.length from Nat.le_refl _)
 have HN:=hid hl
 have HC:=hid hC
 have HE:=hid hE
 have HE2:RowKit.Hid (Tr.CF 147 en n (exprP en r)):=hE
 have HFu:=hid hfu
 clear hX hl hB hf hC hE hfu
 go_enter Tryz.func191,Tryz.ntmps191
 go_wp2_with (first
  | (first|((with_reducible refine Fr.is_store (T:=3) ?_);(first|((refine Fr.wl_store1 0 HF.out Fr.tyInt rfl rfl rfl rfl rfl ?_ ?_);(focus(rfl))));intro W1 HF1;simp only [setL,z0,z1]at HF1;replace HF:=hid HF1;clear HF1)|((with_reducible refine Fr.is_store (T:=47) ?_);(first|((refine Fr.wl_store1 0 HF.out tySE rfl rfl rfl rfl rfl ?_ ?_);(focus(rfl))));intro W1 HF1;simp only [setL,z0,z1]at HF1;replace HF:=hid HF1;clear HF1))
  | (go_at_call 147;(with_reducible refine(HE.out _ B bp _ (by have h1:=HL.out;have h2:=HN.out;(try have h3:=HM.out);omega) HF.out.kp).mono ?_);rintro e W1 ⟨hr,⟨ta,l1,v,hx,hps,rfl,hV⟩|⟨q,hx,rfl⟩⟩;(focus(obtain⟨k0,n0,tx0,op0,xs0,p0,va,rfl,hD,hdp,hd0⟩:=Fr.VEx.parts hV;(try simp only [hx,↓reduceIte,Fr.bB]at HX);replace HL:=hid (con_add (con_expr en HC.out.ce.rg _) hx HL.out);have HF2:=Fr.PF.call HB.out HF.out hr hps;replace HF2:=Fr.Fm.since HF.out HF2 hd0;replace HF:=hid HF2;clear HF2 hr hps hx hd0));rotate_left;(focus((try simp only [hx,↓reduceIte,Fr.bB]at HX);have HR:=hid (rd_trans HF.out.gr hr);clear hr hx));rotate_left)
  | (go_at_call 98;(with_reducible refine(skip_any _ B bp en _ _ HF.out.kp).mono ?_);rintro e W1 ⟨hr,⟨_,l1,v,hx,hps,rfl,rfl⟩|⟨q,hx,rfl⟩⟩;(focus((try simp only [hx,↓reduceIte,Fr.bB]at HX);replace HL:=hid (con_add (Tr.con_skip en _ _) hx HL.out);replace HF:=hid (Fr.PF.call HB.out HF.out hr hps);clear hr hps hx));rotate_left;(focus((try simp only [hx,↓reduceIte,Fr.bB]at HX);have HR:=hid (rd_trans HF.out.gr hr);clear hr hx));rotate_left)
  | ((with_reducible refine Fr.is_lit ?_);(refine Fr.wl_lit1 HF.out Tryz.underlying47 tyE (by simp) (by simp) rfl rfl rfl (exD ta) ?_ ?_);(focus(rw [hD];(repeat' (first|exact Da.row_nil _ _|exact Da.Is.int _|exact Da.Is.str _|exact HF.out.da 0 _ _ rfl|refine Da.row_cons ?_ ?_))));intro b W1 HF1;replace HF:=hid HF1;clear HF1))
 all_goals first|(exact⟨rfl,.inr ⟨_,HX.out,rfl,HR.out⟩⟩)|skip
 obtain⟨te,hte⟩:∃ te,te=ta:=⟨_,rfl⟩
 subst hte
 obtain⟨Y,hY⟩:∃ Y,Y=Tr.manyC [124] (Fr.case1 en r) (fu0+1) l1:=⟨_,rfl⟩
 have HX1:=HX.out
 rw [← hY]at HX1
 replace HX:=hid HX1
 clear HX1
 rw [Tr.loopx_start]at hY
 have hlen:=HF.out.kp.len
 have hle:l1.length≤fu0:=by have h1:=HL.out;have h2:=HFu.out;omega
 have HY:=hid (show Y=LoopX [124] (Fr.case1 en r) [] true l1 fu0∧l1.length≤fu0∧l1.length+(0+1+1)≤l.length∧(([]:List (Option (List Tr.Ex × List Tr.St))).filterMap id).length+l1.length≤6000∧(true=true∨([]:List (Option (List Tr.Ex × List Tr.St))) ≠ [])from⟨hY,hle,HL.out,by simpa using hlen,.inl rfl⟩)
 clear hY
 try simp only [Act.put,zA,z0,z1]
 go_loopg [4] (Tr.meas true l1) (fun g v4 wr=>∃(acc:List (Option (List Tr.Ex × List Tr.St))) (more:Bool) (lc:List Tr.Tok) (fu:Nat) (vl vm:Value),g=Tr.meas more lc∧v4=.bool more∧RowKit.Hid (Fr.PF w0 B bp en lc wr [.blk sb [.int .i64 4,.string ⟨#[]⟩,.slice (some ⟨b,0,none⟩) 1 1,vl,vm,.int .i64 p],.row vl 47 1 (Fr.lbDs ((acc.filterMap id).map (·.1))),.row vm 28 1 (blDs ((acc.filterMap id).map (·.2)))] [(.slice (some ⟨b,0,none⟩) 1 1,.list 6 [exD te])])∧RowKit.Hid (Y=LoopX [124] (Fr.case1 en r) acc more lc fu∧lc.length≤fu∧lc.length+(0+1+1)≤l.length∧(acc.filterMap id).length+lc.length≤6000∧(more=true∨acc ≠ [])))
 case atStart=>exact⟨[],true,l1,fu0,.slice none 0 0,.slice none 0 0,rfl,rfl,hid (((HF.out.own 28 1).own 47 1).pick [2,0,1] [0] (by decide) (by simp) (by simp)),HY⟩
 case round =>
  clear HF HY HL
  obtain⟨acc,more,lc,fu,vl,vm,hg,hm,HF,HY⟩:=hrel
  subst hm
  cases more with
  | false =>
   have HX1:=HX.out
   rw [HY.out.1,Tr.loopx_end,Fr.bind_ok]at HX1
   replace HX:=hid HX1
   have HL:=hid HY.out.2.2.1
   clear HX1 hg HY
   go_wp2_with (first
    | (go_at_call 98;(with_reducible refine(skip_any _ B bp en _ _ HF.out.kp).mono ?_);rintro e W1 ⟨hr,⟨_,l1,v,hx,hps,rfl,rfl⟩|⟨q,hx,rfl⟩⟩;(focus((try simp only [hx,↓reduceIte,Fr.bB]at HX);replace HL:=hid (con_add (Tr.con_skip en _ _) hx HL.out);replace HF:=hid (Fr.PF.call HB.out HF.out hr hps);clear hr hps hx));rotate_left;(focus((try simp only [hx,↓reduceIte,Fr.bB]at HX);have HR:=hid (rd_trans HF.out.gr hr);clear hr hx));rotate_left))
   all_goals first|(exact⟨rfl,.inr ⟨_,HX.out,rfl,HR.out⟩⟩)|skip
   go_end0
   have HV:=(HF.out.close (k:=1) rfl).close (k:=2) rfl
   exact .inl ⟨_,_,_,_,_,_,_,_,_,_,_,HX.out,rfl,HV.pick [0] [2,1,0] (by decide) (by simp) (by simp),by simp only [Tr.stD,exDs];rfl⟩
  | true =>
   have HG:=hid hg
   clear hg
   have HM:=hid (HY.out.2.2.1)
   have HL:=hid (show lc.length+0≤lc.length from Nat.le_refl _)
   obtain⟨Z,hZ⟩:∃ Z,Z=Fr.case1 en r lc:=⟨_,rfl⟩
   have HZ:=hid hZ
   unfold Fr.case1 at hZ
   have HO:=HX
   replace HX:=hid hZ
   have HAc:=hid HY.out.2.2.2.1
   clear hZ
   go_wp2_with (first
    | (go_at_call 221;(with_reducible refine(Fr.start_split _ B bp en _ HF.out.kp).mono ?_);rintro e W1 ⟨hb,⟨hs,rfl⟩|⟨qs,hs,rfl,hq0⟩⟩;(focus((try simp only [hs,↓reduceIte,Fr.bB]at HX);replace HF:=hid (HF.out.below hb);clear hb hs));rotate_left;(focus((try simp only [hs,↓reduceIte,Fr.bB]at HX);replace HF:=hid (HF.out.below hb);clear hb hs));rotate_left)
    | (go_at_call 100;(with_reducible refine(took_any _ B bp en _ [124] HF.out.kp).mono ?_);rintro e W1 ⟨rfl,hr,hps⟩;have HL0:=HL;replace HL:=hid (Fr.took_add [124] HL.out);replace HF:=hid (Fr.PF.call HB.out HF.out hr hps);clear hr hps))
   all_goals first|(exact⟨rfl,.inr ⟨_,loop_no HO.out HY.out.1 (HZ.out ▸ HX.out),rfl,HR.out⟩⟩)|skip
   ·skip
    obtain⟨fu',h1,h2,h3,h4,h5⟩:=Fr.loop_oko (w:=[124]) HY.out (HZ.out.symm.trans HX.out) (show lc.length≤lc.length by have:=HL0.out;omega) (Fr.cnt_case HC.out.ce.rg _ _ _ (HZ.out.symm.trans HX.out))
    go_roundg (Tr.meas (Tr.isS [124] lc) (Tr.took [124] lc).2)
    case rel=>exact⟨_,_,_,fu',_,_,rfl,rfl,hid (by rw [Fr.fm_none];exact HF.out),hid ⟨h1,h2,h3,h4,h5⟩⟩
    case measure=>rw [HG.out];exact Fr.meas_le (show lc.length≤lc.length by have:=HL0.out;omega)
   replace HF:=hid HF.out.drew
   refine wp_region_G (UpTo 11 (fun X=>sb<X.heap.size∧X.cell? ⟨sb,3,none⟩=some vl)) 12 (by kernel_rfl) (by kernel_rfl) (fun _=>⟨HF.out.ltAt 0 rfl,HF.out.cellAt 0 rfl 3 rfl⟩) (fun _ hS=>?_)
   generalize World.drew _=W1 at HF hS ⊢
   refine tkM (n:=12) (is:=[0,1,2,3]) (k:=4) rfl (by kernel_rfl) hS ?_
   repeat(refine wT (v:=?_) rfl (by rfl) (fun X xb=>?_) ?_;rotate_left 1;(focus(go_simp;try with_reducible rfl));try simp only [Act.put,zA,z0,z1])
   refine wE fun hS=>?_
   refine tkB (n:=12) (is:=[4]) [[4]] (k:=1) rfl (by kernel_rfl) hS ?_
   repeat(refine wT (v:=?_) rfl (by rfl) (fun X xb=>?_) ?_;rotate_left 1;(focus(go_simp;try with_reducible rfl));try simp only [Act.put,zA,z0,z1])
   refine wE fun hS=>?_
   refine tkM (n:=12) (is:=[5]) (k:=1) rfl (by kernel_rfl) hS ?_
   repeat(refine wT (v:=?_) rfl (by rfl) (fun X xb=>?_) ?_;rotate_left 1;(focus(go_simp;try with_reducible rfl));try simp only [Act.put,zA,z0,z1])
   refine wE fun hS=>?_
   refine rd1 (i:=6) (by kernel_rfl) (.cons rfl (fun K hK=>?_) .nil)
   go_simp
   (go_at_call 222;(with_reducible refine(labels_any en n (exprP en r) HE2.out (con_expr en HC.out.ce.rg) _ B bp _ (by have h1:=HL.out;have h2:=HN.out;(try have h3:=HM.out);omega) HF.out.kp).mono ?_);rintro e W1 ⟨hr,⟨ls,l1,v,hx,hps,rfl,hV⟩|⟨q,hx,rfl⟩⟩;(focus(have hd0:=hV;(try simp only [hx,↓reduceIte,Fr.bB]at HX);replace HL:=hid (con_add (Tr.con_labels _ (con_expr en HC.out.ce.rg) _) hx HL.out);have HF2:=Fr.PF.call HB.out HF.out hr hps;replace HF2:=Fr.Fm.since HF.out HF2 hd0;replace HF:=hid HF2;clear HF2 hr hps hx hd0));rotate_left;(focus((try simp only [hx,↓reduceIte,Fr.bB]at HX);have HR:=hid (rd_trans HF.out.gr hr);clear hr hx));rotate_left)
   rotate_left
   ·go_simp
    exact⟨rfl,.inr ⟨_,loop_no HO.out HY.out.1 (HZ.out ▸ HX.out),rfl,HR.out⟩⟩
   go_simp
   refine hK.out _ _ (fun _=>⟨HF.out.ltAt 0 rfl,HF.out.cellAt 0 rfl 3 rfl⟩) fun hS=>?_;clear hK K
   try simp only [Act.put,zA,z0,z1]
   refine rd1 (i:=7) (by kernel_rfl) (.cons rfl (fun K hK=>?_) .nil)
   refine(if_pos (by rfl)).mpr ?_
   refine ow_lit1 HF.out Tryz.underlying48 tySE (by simp) (by simp) rfl rfl (Fr.cells_one (HF.out.da 0 _ _ rfl).one) rfl (row:=[.list 6 (exDs ls)]) ?_ ?_
   focus((repeat' (first|exact Da.row_nil _ _|exact HF.out.da 0 _ _ rfl|refine Da.row_cons ?_ ?_)))
   intro b1 W1 HF1
   replace HF:=hid HF1;clear HF1
   refine hK.out _ _ (fun _=>⟨HF.out.ltAt 0 rfl,HF.out.cellAt 0 rfl 3 rfl⟩) fun hS=>?_;clear hK K
   try simp only [Act.put,zA,z0,z1]
   refine rd1 (i:=8) (by kernel_rfl) (.cons rfl (fun K hK=>?_) .nil)
   refine(if_pos (by rfl)).mpr ?_
   refine Fr.ow_append 1 0 HF.out Tryz.underlying48 tySE (by simp) (by simp) rfl rfl rfl rfl rfl rfl ?_ ?_
   focus(have h1:=HAc.out;rw [Fr.lbDs_len];simp only [List.length_map,List.length_cons,List.length_nil];omega)
   intro v1 W1 HF1
   simp only [setL,z0,z1]at HF1;replace HF:=hid HF1;clear HF1
   refine hK.out _ _ (fun _=>⟨HF.out.ltAt 0 rfl,HF.out.cellAt 0 rfl 3 rfl⟩) fun hS=>?_;clear hK K
   try simp only [Act.put,zA,z0,z1]
   refine tkM (n:=12) (is:=[9,10]) (k:=2) rfl (by kernel_rfl) hS ?_
   repeat(refine wT (v:=?_) rfl (by rfl) (fun X xb=>?_) ?_;rotate_left 1;(focus(go_simp;try with_reducible rfl));try simp only [Act.put,zA,z0,z1])
   refine wE fun hS=>?_
   refine rd1 (i:=11) (by kernel_rfl) (.cons rfl (fun K hK=>?_) .nil)
   refine(if_pos (by rfl)).mpr ?_
   (first|((refine ow_store1 0 HF.out Fr.tySSE rfl rfl rfl rfl rfl rfl ?_ ?_);(focus(exact HF.out.rowOne 1 rfl))))
   intro W1 HF1
   simp only [setL,z0,z1]at HF1;replace HF:=hid HF1;clear HF1
   refine hK.out _ _ (fun h=>absurd h (by simp [Fr.setAll])) fun hS=>?_;clear hK K
   try simp only [Act.put,zA,z0,z1]
   refine wpAnyG_done (by kernel_rfl) ?_ _
   clear hS
   go_wp2_with (first
    | (go_at_call 98;(with_reducible refine(skip_any _ B bp en _ _ HF.out.kp).mono ?_);rintro e W1 ⟨hr,⟨_,l1,v,hx,hps,rfl,rfl⟩|⟨q,hx,rfl⟩⟩;(focus((try simp only [hx,↓reduceIte,Fr.bB]at HX);replace HL:=hid (con_add (Tr.con_skip en _ _) hx HL.out);replace HF:=hid (Fr.PF.call HB.out HF.out hr hps);clear hr hps hx));rotate_left;(focus((try simp only [hx,↓reduceIte,Fr.bB]at HX);have HR:=hid (rd_trans HF.out.gr hr);clear hr hx));rotate_left))
   all_goals first|(exact⟨rfl,.inr ⟨_,loop_no HO.out HY.out.1 (HZ.out ▸ HX.out),rfl,HR.out⟩⟩)|skip
   replace HF:=hid HF.out.drew
   refine wp_region_G (UpTo 11 (fun X=>sb<X.heap.size∧X.cell? ⟨sb,4,none⟩=some vm)) 12 (by kernel_rfl) (by kernel_rfl) (fun _=>⟨HF.out.ltAt 0 rfl,HF.out.cellAt 0 rfl 4 rfl⟩) (fun _ hS=>?_)
   generalize World.drew _=W1 at HF hS ⊢
   refine tkM (n:=12) (is:=[0,1,2,3]) (k:=4) rfl (by kernel_rfl) hS ?_
   repeat(refine wT (v:=?_) rfl (by rfl) (fun X xb=>?_) ?_;rotate_left 1;(focus(go_simp;try with_reducible rfl));try simp only [Act.put,zA,z0,z1])
   refine wE fun hS=>?_
   refine tkB (n:=12) (is:=[4]) [[4]] (k:=1) rfl (by kernel_rfl) hS ?_
   repeat(refine wT (v:=?_) rfl (by rfl) (fun X xb=>?_) ?_;rotate_left 1;(focus(go_simp;try with_reducible rfl));try simp only [Act.put,zA,z0,z1])
   refine wE fun hS=>?_
   refine tkM (n:=12) (is:=[5]) (k:=1) rfl (by kernel_rfl) hS ?_
   repeat(refine wT (v:=?_) rfl (by rfl) (fun X xb=>?_) ?_;rotate_left 1;(focus(go_simp;try with_reducible rfl));try simp only [Act.put,zA,z0,z1])
   refine wE fun hS=>?_
   refine rd1 (i:=6) (by kernel_rfl) (.cons rfl (fun K hK=>?_) .nil)
   go_simp
   (go_at_call 104;(with_reducible refine(HC.out.st _ B bp _ (by have h1:=HL.out;have h2:=HN.out;(try have h3:=HM.out);omega) HF.out.kp).mono ?_);rintro e W1 ⟨hr,⟨ss,l1,v,hx,hps,rfl,hV⟩|⟨q,hx,rfl⟩⟩;(focus(have hd0:=hV;(try simp only [hx,↓reduceIte,Fr.bB]at HX);replace HL:=hid (Fr.suf_add (HC.out.ce.rg.st _) hx HL.out);have HF2:=Fr.PF.call HB.out HF.out hr hps;replace HF2:=Fr.Fm.since HF.out HF2 hd0;replace HF:=hid HF2;clear HF2 hr hps hx hd0));rotate_left;(focus((try simp only [hx,↓reduceIte,Fr.bB]at HX);have HR:=hid (rd_trans HF.out.gr hr);clear hr hx));rotate_left)
   rotate_left
   ·go_simp
    exact⟨rfl,.inr ⟨_,loop_no HO.out HY.out.1 (HZ.out ▸ HX.out),rfl,HR.out⟩⟩
   go_simp
   refine hK.out _ _ (fun _=>⟨HF.out.ltAt 0 rfl,HF.out.cellAt 0 rfl 4 rfl⟩) fun hS=>?_;clear hK K
   try simp only [Act.put,zA,z0,z1]
   refine rd1 (i:=7) (by kernel_rfl) (.cons rfl (fun K hK=>?_) .nil)
   refine(if_pos (by rfl)).mpr ?_
   refine ow_lit1 HF.out Tryz.underlying49 tySS (by simp) (by simp) rfl rfl (Fr.cells_one (HF.out.da 0 _ _ rfl).one) rfl (row:=[.list 6 (Tr.stDs ss)]) ?_ ?_
   focus((repeat' (first|exact Da.row_nil _ _|exact HF.out.da 0 _ _ rfl|refine Da.row_cons ?_ ?_)))
   intro b1 W1 HF1
   replace HF:=hid HF1;clear HF1
   refine hK.out _ _ (fun _=>⟨HF.out.ltAt 0 rfl,HF.out.cellAt 0 rfl 4 rfl⟩) fun hS=>?_;clear hK K
   try simp only [Act.put,zA,z0,z1]
   refine rd1 (i:=8) (by kernel_rfl) (.cons rfl (fun K hK=>?_) .nil)
   refine(if_pos (by rfl)).mpr ?_
   refine Fr.ow_append 2 0 HF.out Tryz.underlying49 tySS (by simp) (by simp) rfl rfl rfl rfl rfl rfl ?_ ?_
   focus(have h1:=HAc.out;rw [Fr.blDs_len];simp only [List.length_map,List.length_cons,List.length_nil];omega)
   intro v1 W1 HF1
   simp only [setL,z0,z1]at HF1;replace HF:=hid HF1;clear HF1
   refine hK.out _ _ (fun _=>⟨HF.out.ltAt 0 rfl,HF.out.cellAt 0 rfl 4 rfl⟩) fun hS=>?_;clear hK K
   try simp only [Act.put,zA,z0,z1]
   refine tkM (n:=12) (is:=[9,10]) (k:=2) rfl (by kernel_rfl) hS ?_
   repeat(refine wT (v:=?_) rfl (by rfl) (fun X xb=>?_) ?_;rotate_left 1;(focus(go_simp;try with_reducible rfl));try simp only [Act.put,zA,z0,z1])
   refine wE fun hS=>?_
   refine rd1 (i:=11) (by kernel_rfl) (.cons rfl (fun K hK=>?_) .nil)
   refine(if_pos (by rfl)).mpr ?_
   (first|((refine ow_store1 0 HF.out Fr.tySSS rfl rfl rfl rfl rfl rfl ?_ ?_);(focus(exact HF.out.rowOne 2 rfl))))
   intro W1 HF1
   simp only [setL,z0,z1]at HF1;replace HF:=hid HF1;clear HF1
   refine hK.out _ _ (fun h=>absurd h (by simp [Fr.setAll])) fun hS=>?_;clear hK K
   try simp only [Act.put,zA,z0,z1]
   refine wpAnyG_done (by kernel_rfl) ?_ _
   clear hS
   go_wp2_with (first
    | (go_at_call 100;(with_reducible refine(took_any _ B bp en _ [124] HF.out.kp).mono ?_);rintro e W1 ⟨rfl,hr,hps⟩;have HL0:=HL;replace HL:=hid (Fr.took_add [124] HL.out);replace HF:=hid (Fr.PF.call HB.out HF.out hr hps);clear hr hps))
   obtain⟨fu',h1,h2,h3,h4,h5⟩:=Fr.loop_oko (w:=[124]) HY.out (HZ.out.symm.trans HX.out) (show l1.length≤lc.length by have:=HL0.out;omega) (Fr.cnt_case HC.out.ce.rg _ _ _ (HZ.out.symm.trans HX.out))
   go_roundg (Tr.meas (Tr.isS [124] l1) (Tr.took [124] l1).2)
   case rel=>exact⟨_,_,_,fu',_,_,rfl,rfl,hid (by rw [Fr.fm_some,List.map_append,List.map_append,List.map_cons,List.map_nil,List.map_cons,List.map_nil,Fr.lbDs_snoc,Fr.blDs_snoc];exact HF.out.pick [0,1,2] [4] (by decide) (by simp) (by simp)),hid ⟨h1,h2,h3,h4,h5⟩⟩
   case measure=>rw [HG.out];exact Fr.meas_le (show l1.length≤lc.length by have:=HL0.out;omega)
end Go.Proofs.YtlhmkfcbldghfaaGreatDoor
