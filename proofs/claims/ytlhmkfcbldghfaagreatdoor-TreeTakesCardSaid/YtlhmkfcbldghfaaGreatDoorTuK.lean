/- The walk of tree's parser's design. Conditions: the parser's block is as it is made;shorter texts are read as they should be. -/
import Derived.Test.YtlhmkfcbldghfaaGreatDoorTuEb
import Derived.Test.YtlhmkfcbldghfaaGreatDoorFmY
namespace Go.Proofs.YtlhmkfcbldghfaaGreatDoor
set_option linter.all false
open Go.Lib (hid)
set_option maxRecDepth 1000000
set_option maxHeartbeats 16000000
open Go.RowKit
open Fr (con_add setL tkB tkM tyE wE wT zE)
open Tr (LoopX exD exDs rd_trans)
namespace Fr
open Da Tr
theorem des_step(en:Int)(r:Rc)(n:Nat)(e:Ex)(l:List Tok):designL en r (n+1) e l =
  if isS [46] l then(nameT en l.tail).bind fun t l1=>designL en r n (.mk 9 0 t.2.1 [] [e] (exPos e)) l1
  else if isS [91] l then(manyC comma r.ex (l.length+1) l.tail).bind fun xs l1=>(skip en [93] l1).bind fun _ l2=>designL en r n (xs.foldl (fun e x => .mk 10 0 [] [] [e,x] (exPos e)) e) l2
  else if isS [94] l then designL en r n (.mk 11 0 [] [] [e] (exPos e)) l.tail
  else if isS [40] l then
   (if isS [41] l.tail then .ok [] l.tail else manyC comma r.ex (l.length+1) l.tail).bind fun xs l1=>(skip en [41] l1).bind fun _ l2=>designL en r n (.mk 12 0 [] [] (e::xs) (exPos e)) l2
  else .ok e l:=by
 conv=>lhs;unfold designL
def idx(e:Ex)(xs:List Ex):Ex:=xs.foldl (fun e x => .mk 10 0 [] [] [e,x] (exPos e)) e
theorem idx_snoc(e:Ex)(xs:List Ex)(x:Ex):idx e (xs++[x])=.mk 10 0 [] [] [idx e xs,x] (exPos (idx e xs)):=by simp [idx]
theorem exD_mk(k n:Int)(t o:List UInt8)(xs:List Ex)(p:Int):exD (.mk k n t o xs p)=[.int k,.int n,.str t,.str o,.list 6 (exDs xs),.int p]:=by rw [exD]
theorem vex_of{lo:Nat}{w:World}{e:Ex}{k m p:Int}{t o:List UInt8}{va:Value}{d:D}(h:exD e=[.int k,.int m,.str t,.str o,d,.int p])(hv:Is w (fun b=>lo≤b) va d):VEx lo w (.agg [.int .i64 k,.int .i64 m,.string ⟨t.toArray⟩,.string ⟨o.toArray⟩,va,.int .i64 p].toArray) e:=by
 obtain⟨k',m',t',o',xs,p'⟩:=e
 rw [exD]at h
 simp only [List.cons.injEq,D.int.injEq,D.str.injEq,and_true]at h
 obtain⟨rfl,rfl,rfl,rfl,rfl,rfl⟩:=h
 exact⟨va,rfl,hv⟩
end Fr
theorem design_fm(en:Int)(n:Nat)(r:Tr.Rc)(hC:Fr.CR en n r):Fr.CV 189 en n (Tr.designP en r) Tr.VEx:=by
 intro w B bp l hl hp
 obtain⟨X,hX⟩:∃ X,X=Tr.designP en r l:=⟨_,rfl⟩
 rw [show Tr.designP en r l=X from hX.symm]
 unfold Tr.designP at hX
 have HX:=hid hX
 have HB:RowKit.Hid (B≤w.heap.size):=hp.size
 have HF:=hid (Fr.pf_start hp)
 have HL:=hid (show l.length+0≤l.length from Nat.le_refl _)
 have HN:=hid hl
 have HC:=hid hC
 clear hC
 have hfl0:=Fr.fld_tok0
 have hfl1:=Fr.fld_tok1
 have hfl3:=Fr.fld_tok3
 clear hX hp hl
 go_enter Tryz.func189,Tryz.ntmps189
 go_wp2_with (first
  | ((with_reducible refine Fr.is_alloc (dst:=some 2) ?_);(first|(refine Fr.wl_alloc HF.out tyE ?_));intro b2 W1 HF1;replace HF:=hid HF1;clear HF1)
  | ((with_reducible refine Fr.is_alloc (dst:=some 3) ?_);(first|(refine Fr.wl_alloc HF.out Fr.tyTok ?_));intro b3 W1 HF1;replace HF:=hid HF1;clear HF1)
  | ((with_reducible refine Fr.is_alloc (dst:=some 4) ?_);(first|(refine Fr.wl_alloc HF.out tyE ?_));intro b4 W1 HF1;replace HF:=hid HF1;clear HF1)
  | (first|((with_reducible refine Fr.is_store (T:=40) ?_);(first|(refine Fr.wl_store 0 HF.out Fr.tyTok rfl rfl rfl rfl rfl (z4 rfl) oT ?_));intro W1 HF1;simp only [setL,z0,z1]at HF1;replace HF:=hid HF1;clear HF1)|((with_reducible refine Fr.is_store (T:=53) ?_);(first|(refine Fr.wl_store 0 HF.out tyE rfl rfl rfl rfl rfl (z4 rfl) oT ?_));intro W1 HF1;simp only [setL,z0,z1]at HF1;replace HF:=hid HF1;clear HF1))
  | (first|((with_reducible refine Fr.is_load (T:=9) ?_);(first|(refine Fr.wl_load1 0 HF.out rfl rfl Tryz.underlying9 rfl rfl ?_)))|((with_reducible refine Fr.is_load (T:=3) ?_);(first|(refine Fr.wl_load1 0 HF.out rfl rfl Tryz.underlying3 rfl rfl ?_))))
  | (go_at_call 99;(with_reducible refine(name_any _ B bp en _ HF.out.kp).mono ?_);rintro e W1 ⟨hr,⟨t,l1,v,hx,hps,rfl,hv⟩|⟨q,hx,rfl⟩⟩;(focus(obtain⟨kd,t2,n2,q2⟩:=t;obtain rfl:v=.agg #[.int .i64 kd,.string ⟨t2.toArray⟩,.int .i64 n2,.int .i64 q2]:=hv;(try simp only [hx,↓reduceIte,Fr.bB]at HX);replace HL:=hid (con_add (Tr.con_name en _) hx HL.out);replace HF:=hid (Fr.PF.call HB.out HF.out hr hps);clear hr hps hx));rotate_left;(focus((try simp only [hx,↓reduceIte,Fr.bB]at HX);have HR:=hid (rd_trans HF.out.gr hr);clear hr hx));rotate_left))
 all_goals first|(exact⟨rfl,HR.out,.inr ⟨_,HX.out,rfl⟩⟩)|skip
 have HS:=hid (show Fr.PF w B bp en l1 _ [.blk b4 [.int .i64 8,.int .i64 0,.string ⟨t2.toArray⟩,.string ⟨#[]⟩,.slice none 0 0,.int .i64 q2],.blk b2 zE] [(.slice none 0 0,.list 6 [])]from((HF.out.data (v:=.slice none 0 0) (d:=.list 6 []) (m:=W1.heap.size) (Fr.is_nil _) HF.out.size (fun i r b hi hb=>(HF.out.fpl hi hb).2)).pick [0,2] [0] (by decide) (by simp) (by simp)))
 clear HF
 try simp only [Act.put,zA,z0,z1]
 go_loopg [14] l1.length (fun g (_:Value) wr=>∃(k m p:Int) (t o:List UInt8) (va:Value) (d:Da.D) (_:Unit) (e:Tr.Ex) (lc:List Tr.Tok) (fu:Nat),g=lc.length∧RowKit.Hid (Fr.PF w B bp en lc wr [.blk b4 [.int .i64 k,.int .i64 m,.string ⟨t.toArray⟩,.string ⟨o.toArray⟩,va,.int .i64 p],.blk b2 zE] [(va,d)])∧RowKit.Hid (exD e=[.int k,.int m,.str t,.str o,d,.int p]∧Tr.exPos e=p)∧RowKit.Hid (X=Tr.designL en r (fu+1) e lc∧lc.length≤fu∧lc.length+(0+1)≤l.length))
 case atStart=>exact⟨8,0,q2,t2,[],_,_,(),.mk 8 0 t2 [] [] q2,l1,l.length,rfl,HS,hid ⟨by rw [Fr.exD_mk];rfl,rfl⟩,hid ⟨HX.out,by have:=HL.out;omega,HL.out⟩⟩
 case round =>
  clear HS HX HL
  obtain⟨k,m,p,t,o,va,d,_,e,lc,fu,hg,HF,HD,HXR⟩:=hrel
  have HG:=hid hg
  have HX:=hid (HXR.out.1.trans (Fr.des_step en r fu e lc))
  have HM:=hid (show lc.length≤fu∧lc.length+(0+1)≤l.length from HXR.out.2)
  have HL:=hid (show lc.length+0≤lc.length from Nat.le_refl _)
  have HMO:=hid HXR.out.2.2
  clear hg HXR
  go_wp2_with (first
   | (go_at_call 100;(with_reducible refine(Fr.took_split _ B bp en _ _ HF.out.kp).mono ?_);rintro e W1 ⟨hr,⟨hs,rfl,hps⟩|⟨hs,rfl,hps⟩⟩;(focus((try simp only [hs,↓reduceIte,Fr.bB]at HX);replace HF:=hid (Fr.PF.call HB.out HF.out hr hps);replace HL:=hid (Fr.tail_add hs HL.out);clear hr hps hs));rotate_left;(focus((try simp only [hs,↓reduceIte,Fr.bB]at HX);replace HF:=hid (Fr.PF.call HB.out HF.out hr hps);clear hr hps hs));rotate_left)
   | (go_at_call 102;(with_reducible refine(Fr.is_split _ B bp en _ _ HF.out.kp).mono ?_);rintro e W1 ⟨hb,⟨hs,rfl⟩|⟨hs,rfl⟩⟩;(focus((try simp only [hs,↓reduceIte,Fr.bB]at HX);replace HF:=hid (HF.out.below hb);clear hb hs));rotate_left;(focus((try simp only [hs,↓reduceIte,Fr.bB]at HX);replace HF:=hid (HF.out.below hb);clear hb hs));rotate_left)
   | (go_at_call 98;(with_reducible refine(skip_any _ B bp en _ _ HF.out.kp).mono ?_);rintro e W1 ⟨hr,⟨_,l1,v,hx,hps,rfl,rfl⟩|⟨q,hx,rfl⟩⟩;(focus((try simp only [hx,↓reduceIte,Fr.bB]at HX);replace HL:=hid (con_add (Tr.con_skip en _ _) hx HL.out);replace HF:=hid (Fr.PF.call HB.out HF.out hr hps);clear hr hps hx));rotate_left;(focus((try simp only [hx,↓reduceIte,Fr.bB]at HX);have HR:=hid (rd_trans HF.out.gr hr);clear hr hx));rotate_left)
   | (first|((with_reducible refine Fr.is_load (T:=53) ?_);((refine Fr.wl_load 0 HF.out rfl rfl Tryz.underlying53 rfl tyE rfl ?_)))|((with_reducible refine Fr.is_load (T:=3) ?_);(first|(refine Fr.wl_load1 0 HF.out rfl rfl Tryz.underlying3 rfl rfl ?_)|(refine Fr.wl_load1 1 HF.out rfl rfl Tryz.underlying3 rfl rfl ?_))))
   | (first|((with_reducible refine Fr.is_store (T:=53) ?_);(first|(refine Fr.wl_store 0 HF.out tyE rfl rfl rfl rfl rfl (z4 rfl) (by repeat' (first|exact z3 _|refine z2 ?_ ?_|rfl|exact(HF.out.da 0 _ _ rfl).one)) ?_)|(refine Fr.wl_store 1 HF.out tyE rfl rfl rfl rfl rfl (z4 rfl) (by repeat' (first|exact z3 _|refine z2 ?_ ?_|rfl|exact(HF.out.da 0 _ _ rfl).one)) ?_));intro W1 HF1;simp only [setL,z0,z1]at HF1;replace HF:=hid HF1;clear HF1))
   | ((with_reducible refine Fr.is_lit (dst:=some 45) ?_);(refine Fr.wl_lit1 HF.out Tryz.underlying47 tyE (by simp) (by simp) rfl rfl rfl (exD e) ?_ ?_);(focus(rw [HD.out.1];(repeat' (first|exact Da.row_nil _ _|exact Da.Is.int _|exact Da.Is.str _|exact HF.out.da 0 _ _ rfl|refine Da.row_cons ?_ ?_))));intro b1 W1 HF1;replace HF:=hid HF1;clear HF1)
   | ((with_reducible refine Fr.is_lit (dst:=some 53) ?_);(refine Fr.wl_litR HF.out Tryz.underlying47 tyE (by simp) (by simp) rfl rfl rfl (exD e) ?_ ?_);(focus(rw [HD.out.1];(repeat' (first|exact Da.row_nil _ _|exact Da.Is.int _|exact Da.Is.str _|exact HF.out.da 0 _ _ rfl|refine Da.row_cons ?_ ?_))));intro b1 W1 HF1;replace HF:=hid HF1;clear HF1))
  all_goals first|(exact⟨rfl,HR.out,.inr ⟨_,HX.out,rfl⟩⟩)|skip
  ·skip
   replace HF:=hid HF.out.drew
   refine wp_region_G (UpTo 8 (fun X=>b4<X.heap.size∧X.cell? ⟨b4,0,none⟩=some (.int .i64 k)∧X.cell? ⟨b4,1,none⟩=some (.int .i64 m)∧X.cell? ⟨b4,2,none⟩=some (.string ⟨t.toArray⟩)∧X.cell? ⟨b4,3,none⟩=some (.string ⟨o.toArray⟩)∧X.cell? ⟨b4,4,none⟩=some va∧X.cell? ⟨b4,5,none⟩=some (.int .i64 p))) 9 (by kernel_rfl) (by kernel_rfl) (fun _=>⟨HF.out.ltAt 0 rfl,HF.out.cellAt 0 rfl 0 rfl,HF.out.cellAt 0 rfl 1 rfl,HF.out.cellAt 0 rfl 2 rfl,HF.out.cellAt 0 rfl 3 rfl,HF.out.cellAt 0 rfl 4 rfl,HF.out.cellAt 0 rfl 5 rfl⟩) (fun _ hS=>?_)
   generalize World.drew _=W1 at HF hS ⊢
   refine tkM (n:=9) (is:=[0]) (k:=1) rfl (by kernel_rfl) hS ?_
   repeat(refine wT (v:=?_) rfl (by rfl) (fun X xb=>?_) ?_;rotate_left 1;(focus(go_simp;try with_reducible rfl));try simp only [Act.put,zA,z0,z1])
   refine wE fun hS=>?_
   refine tkB (n:=9) (is:=[3]) [[3]] (k:=1) rfl (by kernel_rfl) hS ?_
   repeat(refine wT (v:=?_) rfl (by rfl) (fun X xb=>?_) ?_;rotate_left 1;(focus(go_simp;try with_reducible rfl));try simp only [Act.put,zA,z0,z1])
   refine wE fun hS=>?_
   refine tkM (n:=9) (is:=[5]) (k:=1) rfl (by kernel_rfl) hS ?_
   repeat(refine wT (v:=?_) rfl (by rfl) (fun X xb=>?_) ?_;rotate_left 1;(focus(go_simp;try with_reducible rfl));try simp only [Act.put,zA,z0,z1])
   refine wE fun hS=>?_
   refine tkB (n:=9) (is:=[6]) [[6]] (k:=1) rfl (by kernel_rfl) hS ?_
   repeat(refine wT (v:=?_) rfl (by rfl) (fun X xb=>?_) ?_;rotate_left 1;(focus(go_simp;try with_reducible rfl));try simp only [Act.put,zA,z0,z1])
   refine wE fun hS=>?_
   refine wpAnyG_ready (rs:=[1,4]) (by kernel_rfl) (by simp) ?_
   refine AllReadyG.cons rfl (fun K hK=>?_) (AllReadyG.cons rfl (fun K hK=>?_) AllReadyG.nil)
   ·skip
    go_simp
    (go_at_call 99;(with_reducible refine(name_any _ B bp en _ HF.out.kp).mono ?_);rintro e W1 ⟨hr,⟨t3,l1,v,hx,hps,rfl,hv⟩|⟨q,hx,rfl⟩⟩;(focus(obtain⟨kd3,t3,n3,q3⟩:=t3;obtain rfl:v=.agg #[.int .i64 kd3,.string ⟨t3.toArray⟩,.int .i64 n3,.int .i64 q3]:=hv;(try simp only [hx,↓reduceIte,Fr.bB]at HX);replace HL:=hid (con_add (Tr.con_name en _) hx HL.out);replace HF:=hid (Fr.PF.call HB.out HF.out hr hps);clear hr hps hx));rotate_left;(focus((try simp only [hx,↓reduceIte,Fr.bB]at HX);have HR:=hid (rd_trans HF.out.gr hr);clear hr hx));rotate_left)
    rotate_left
    ·go_simp
     exact⟨rfl,HR.out,.inr ⟨_,HX.out,rfl⟩⟩
    go_simp
    refine hK.out _ _ (fun _=>⟨HF.out.ltAt 0 rfl,HF.out.cellAt 0 rfl 0 rfl,HF.out.cellAt 0 rfl 1 rfl,HF.out.cellAt 0 rfl 2 rfl,HF.out.cellAt 0 rfl 3 rfl,HF.out.cellAt 0 rfl 4 rfl,HF.out.cellAt 0 rfl 5 rfl⟩) fun hS=>?_;clear hK K
    try simp only [Act.put,zA,z0,z1]
    refine tkM (n:=9) (is:=[2]) (k:=1) rfl (by kernel_rfl) hS ?_
    repeat(refine wT (v:=?_) rfl (by rfl) (fun X xb=>?_) ?_;rotate_left 1;(focus(go_simp;try with_reducible rfl));try simp only [Act.put,zA,z0,z1])
    refine wE fun hS=>?_
    refine rd1 (i:=4) (by kernel_rfl) (.cons rfl (fun K hK=>?_) .nil)
    refine(if_pos (by rfl)).mpr ?_
    refine Fr.ow_lit1 HF.out Tryz.underlying47 tyE (by simp) (by simp) rfl rfl rfl rfl (row:=exD e) ?_ ?_
    focus(rw [HD.out.1];(repeat' (first|exact Da.row_nil _ _|exact Da.Is.int _|exact Da.Is.str _|exact HF.out.da 0 _ _ rfl|refine Da.row_cons ?_ ?_)))
    intro b1 W1 HF1
    replace HF:=hid HF1;clear HF1
    refine hK.out _ _ (fun _=>⟨HF.out.ltAt 0 rfl,HF.out.cellAt 0 rfl 0 rfl,HF.out.cellAt 0 rfl 1 rfl,HF.out.cellAt 0 rfl 2 rfl,HF.out.cellAt 0 rfl 3 rfl,HF.out.cellAt 0 rfl 4 rfl,HF.out.cellAt 0 rfl 5 rfl⟩) fun hS=>?_;clear hK K
    try simp only [Act.put,zA,z0,z1]
    refine tkM (n:=9) (is:=[7]) (k:=1) rfl (by kernel_rfl) hS ?_
    repeat(refine wT (v:=?_) rfl (by rfl) (fun X xb=>?_) ?_;rotate_left 1;(focus(go_simp;try with_reducible rfl));try simp only [Act.put,zA,z0,z1])
    refine wE fun hS=>?_
    refine rd1 (i:=8) (by kernel_rfl) (.cons rfl (fun K hK=>?_) .nil)
    refine(if_pos (by rfl)).mpr ?_
    (first|(refine Fr.ow_store 0 HF.out tyE rfl rfl rfl rfl rfl rfl (z4 rfl) oT ?_))
    intro W1 HF1
    simp only [setL,z0,z1]at HF1;replace HF:=hid HF1;clear HF1
    refine hK.out _ _ (fun h=>absurd h (by simp [Fr.setAll])) fun hS=>?_;clear hK K
    try simp only [Act.put,zA,z0,z1]
    refine wpAnyG_done (by kernel_rfl) ?_ _
    clear hS
    go_wp2
    obtain⟨f2,rfl⟩:∃ f2,fu=f2+1:=⟨fu - 1,by have h1:=HL.out;have h2:=HM.out;omega⟩
    go_roundg l1.length
    case rel=>exact⟨9,0,_,t3,[],_,_,(),.mk 9 0 t3 [] [e] (Tr.exPos e),l1,f2,rfl,hid (HF.out.pick [0,1] [0] (by decide) (by simp) (by simp)),hid ⟨by rw [Fr.exD_mk,HD.out.2];first|rfl|(simp only [exDs];rfl),HD.out.2⟩,hid ⟨HX.out,by have h1:=HL.out;have h2:=HM.out;omega,by have h1:=HL.out;have h2:=HM.out;omega⟩⟩
    case measure=>rw [HG.out];have h1:=HL.out;omega
   ·skip
    refine(if_pos (by rfl)).mpr ?_
    refine Fr.ow_lit1 HF.out Tryz.underlying47 tyE (by simp) (by simp) rfl rfl rfl rfl (row:=exD e) ?_ ?_
    focus(rw [HD.out.1];(repeat' (first|exact Da.row_nil _ _|exact Da.Is.int _|exact Da.Is.str _|exact HF.out.da 0 _ _ rfl|refine Da.row_cons ?_ ?_)))
    intro b1 W1 HF1
    replace HF:=hid HF1;clear HF1
    refine hK.out _ _ (fun _=>⟨HF.out.ltAt 0 rfl,HF.out.cellAt 0 rfl 0 rfl,HF.out.cellAt 0 rfl 1 rfl,HF.out.cellAt 0 rfl 2 rfl,HF.out.cellAt 0 rfl 3 rfl,HF.out.cellAt 0 rfl 4 rfl,HF.out.cellAt 0 rfl 5 rfl⟩) fun hS=>?_;clear hK K
    try simp only [Act.put,zA,z0,z1]
    refine rd1 (i:=1) (by kernel_rfl) (.cons rfl (fun K hK=>?_) .nil)
    go_simp
    (go_at_call 99;(with_reducible refine(name_any _ B bp en _ HF.out.kp).mono ?_);rintro e W1 ⟨hr,⟨t3,l1,v,hx,hps,rfl,hv⟩|⟨q,hx,rfl⟩⟩;(focus(obtain⟨kd3,t3,n3,q3⟩:=t3;obtain rfl:v=.agg #[.int .i64 kd3,.string ⟨t3.toArray⟩,.int .i64 n3,.int .i64 q3]:=hv;(try simp only [hx,↓reduceIte,Fr.bB]at HX);replace HL:=hid (con_add (Tr.con_name en _) hx HL.out);replace HF:=hid (Fr.PF.call HB.out HF.out hr hps);clear hr hps hx));rotate_left;(focus((try simp only [hx,↓reduceIte,Fr.bB]at HX);have HR:=hid (rd_trans HF.out.gr hr);clear hr hx));rotate_left)
    rotate_left
    ·go_simp
     exact⟨rfl,HR.out,.inr ⟨_,HX.out,rfl⟩⟩
    go_simp
    refine hK.out _ _ (fun _=>⟨HF.out.ltAt 0 rfl,HF.out.cellAt 0 rfl 0 rfl,HF.out.cellAt 0 rfl 1 rfl,HF.out.cellAt 0 rfl 2 rfl,HF.out.cellAt 0 rfl 3 rfl,HF.out.cellAt 0 rfl 4 rfl,HF.out.cellAt 0 rfl 5 rfl⟩) fun hS=>?_;clear hK K
    try simp only [Act.put,zA,z0,z1]
    refine tkM (n:=9) (is:=[2,7]) (k:=2) rfl (by kernel_rfl) hS ?_
    repeat(refine wT (v:=?_) rfl (by rfl) (fun X xb=>?_) ?_;rotate_left 1;(focus(go_simp;try with_reducible rfl));try simp only [Act.put,zA,z0,z1])
    refine wE fun hS=>?_
    refine rd1 (i:=8) (by kernel_rfl) (.cons rfl (fun K hK=>?_) .nil)
    refine(if_pos (by rfl)).mpr ?_
    (first|(refine Fr.ow_store 0 HF.out tyE rfl rfl rfl rfl rfl rfl (z4 rfl) oT ?_))
    intro W1 HF1
    simp only [setL,z0,z1]at HF1;replace HF:=hid HF1;clear HF1
    refine hK.out _ _ (fun h=>absurd h (by simp [Fr.setAll])) fun hS=>?_;clear hK K
    try simp only [Act.put,zA,z0,z1]
    refine wpAnyG_done (by kernel_rfl) ?_ _
    clear hS
    go_wp2
    obtain⟨f2,rfl⟩:∃ f2,fu=f2+1:=⟨fu - 1,by have h1:=HL.out;have h2:=HM.out;omega⟩
    go_roundg l1.length
    case rel=>exact⟨9,0,_,t3,[],_,_,(),.mk 9 0 t3 [] [e] (Tr.exPos e),l1,f2,rfl,hid (HF.out.pick [0,1] [0] (by decide) (by simp) (by simp)),hid ⟨by rw [Fr.exD_mk,HD.out.2];first|rfl|(simp only [exDs];rfl),HD.out.2⟩,hid ⟨HX.out,by have h1:=HL.out;have h2:=HM.out;omega,by have h1:=HL.out;have h2:=HM.out;omega⟩⟩
    case measure=>rw [HG.out];have h1:=HL.out;omega
  ·skip
   obtain⟨Y,hY⟩:∃ Y,Y=Tr.manyC Tr.comma r.ex (lc.length+1) lc.tail:=⟨_,rfl⟩
   have HX1:=HX.out
   rw [← hY]at HX1
   replace HX:=hid HX1
   clear HX1
   rw [Tr.loopx_start]at hY
   have hlen:=HF.out.kp.len
   have hle:lc.tail.length≤lc.length:=by simp
   have HY:=hid (show Y=LoopX Tr.comma r.ex [] true lc.tail lc.length∧lc.tail.length≤lc.length∧lc.tail.length+(0+1)≤lc.length∧([]:List Tr.Ex).length+lc.tail.length≤6000∧(true=true∨([]:List Tr.Ex) ≠ [])from⟨hY,hle,HL.out,by simpa using hlen,.inl rfl⟩)
   clear hY
   try simp only [Act.put,zA,z0,z1]
   go_loopg [5] (Tr.meas true lc.tail) (fun g v5 wr2=>∃(acc:List Tr.Ex) (more:Bool) (lc2:List Tr.Tok) (fu2:Nat) (k2 m2 p2:Int) (t2 o2:List UInt8) (va2:Value) (d2:Da.D),g=Tr.meas more lc2∧v5=.bool more∧RowKit.Hid (Fr.PF w B bp en lc2 wr2 [.blk b4 [.int .i64 k2,.int .i64 m2,.string ⟨t2.toArray⟩,.string ⟨o2.toArray⟩,va2,.int .i64 p2],.blk b2 zE] [(va2,d2)])∧RowKit.Hid (exD (Fr.idx e acc)=[.int k2,.int m2,.str t2,.str o2,d2,.int p2]∧Tr.exPos (Fr.idx e acc)=p2)∧RowKit.Hid (Y=LoopX Tr.comma r.ex acc more lc2 fu2∧lc2.length≤fu2∧lc2.length+(0+1)≤lc.length∧acc.length+lc2.length≤6000∧(more=true∨acc ≠ [])))
   case atStart=>exact⟨[],true,lc.tail,lc.length,k,m,p,t,o,va,d,rfl,rfl,HF,HD,HY⟩
   case round =>
    clear HF HY HL
    obtain⟨acc,more,lc2,fu2,k2,m2,p2,t2,o2,va2,d2,hg2,hm2,HF,HD2,HY⟩:=hrel
    subst hm2
    cases more with
    | false =>
     have HX1:=HX.out
     rw [HY.out.1,Tr.loopx_end,Fr.bind_ok]at HX1
     replace HX:=hid HX1
     have HL:=hid HY.out.2.2.1
     clear HX1 hg2 HY
     go_wp2_with (first
      | (go_at_call 98;(with_reducible refine(skip_any _ B bp en _ _ HF.out.kp).mono ?_);rintro e W1 ⟨hr,⟨_,l1,v,hx,hps,rfl,rfl⟩|⟨q,hx,rfl⟩⟩;(focus((try simp only [hx,↓reduceIte,Fr.bB]at HX);replace HL:=hid (con_add (Tr.con_skip en _ _) hx HL.out);replace HF:=hid (Fr.PF.call HB.out HF.out hr hps);clear hr hps hx));rotate_left;(focus((try simp only [hx,↓reduceIte,Fr.bB]at HX);have HR:=hid (rd_trans HF.out.gr hr);clear hr hx));rotate_left))
     all_goals first|(exact⟨rfl,HR.out,.inr ⟨_,HX.out,rfl⟩⟩)|skip
     obtain⟨f2,rfl⟩:∃ f2,fu=f2+1:=⟨fu - 1,by have h1:=HL.out;have h2:=HM.out;omega⟩
     go_roundg l1.length
     case rel=>exact⟨k2,m2,_,t2,o2,_,_,(),Fr.idx e acc,l1,f2,rfl,HF,HD2,hid ⟨HX.out,by have h1:=HL.out;have h2:=HM.out;omega,by have h1:=HL.out;have h2:=HM.out;omega⟩⟩
     case measure=>rw [HG.out];have h1:=HL.out;omega
    | true =>
     have HG2:=hid hg2
     clear hg2
     have HMO:=HM
     replace HM:=hid (show lc2.length+(0+1)≤l.length by have h1:=HY.out.2.2.1;have h2:=HMO.out;omega)
     have HL:=hid (show lc2.length+0≤lc2.length from Nat.le_refl _)
     obtain⟨Z,hZ⟩:∃ Z,Z=r.ex lc2:=⟨_,rfl⟩
     have HZ:=hid hZ
     have HO:=HX
     replace HX:=hid hZ
     clear hZ
     go_wp2
     replace HF:=hid HF.out.drew
     refine wp_region_G (UpTo 7 (fun X=>b4<X.heap.size∧X.cell? ⟨b4,0,none⟩=some (.int .i64 k2)∧X.cell? ⟨b4,1,none⟩=some (.int .i64 m2)∧X.cell? ⟨b4,2,none⟩=some (.string ⟨t2.toArray⟩)∧X.cell? ⟨b4,3,none⟩=some (.string ⟨o2.toArray⟩)∧X.cell? ⟨b4,4,none⟩=some va2∧X.cell? ⟨b4,5,none⟩=some (.int .i64 p2))) 8 (by kernel_rfl) (by kernel_rfl) (fun _=>⟨HF.out.ltAt 0 rfl,HF.out.cellAt 0 rfl 0 rfl,HF.out.cellAt 0 rfl 1 rfl,HF.out.cellAt 0 rfl 2 rfl,HF.out.cellAt 0 rfl 3 rfl,HF.out.cellAt 0 rfl 4 rfl,HF.out.cellAt 0 rfl 5 rfl⟩) (fun _ hS=>?_)
     generalize World.drew _=W1 at HF hS ⊢
     refine tkB (n:=8) (is:=[0]) [[0]] (k:=1) rfl (by kernel_rfl) hS ?_
     repeat(refine wT (v:=?_) rfl (by rfl) (fun X xb=>?_) ?_;rotate_left 1;(focus(go_simp;try with_reducible rfl));try simp only [Act.put,zA,z0,z1])
     refine wE fun hS=>?_
     refine tkM (n:=8) (is:=[1,4]) (k:=2) rfl (by kernel_rfl) hS ?_
     repeat(refine wT (v:=?_) rfl (by rfl) (fun X xb=>?_) ?_;rotate_left 1;(focus(go_simp;try with_reducible rfl));try simp only [Act.put,zA,z0,z1])
     refine wE fun hS=>?_
     refine tkB (n:=8) (is:=[5]) [[5]] (k:=1) rfl (by kernel_rfl) hS ?_
     repeat(refine wT (v:=?_) rfl (by rfl) (fun X xb=>?_) ?_;rotate_left 1;(focus(go_simp;try with_reducible rfl));try simp only [Act.put,zA,z0,z1])
     refine wE fun hS=>?_
     refine rd1 (i:=2) (by kernel_rfl) (.cons rfl (fun K hK=>?_) .nil)
     go_simp
     (go_at_call 147;(with_reducible refine(HC.out.ce.ex _ B bp _ (by have h1:=HL.out;have h2:=HN.out;(try have h3:=HM.out);omega) HF.out.kp).mono ?_);rintro e W1 ⟨hr,⟨ta,l1,v,hx,hps,rfl,hV⟩|⟨q,hx,rfl⟩⟩;(focus(obtain⟨k0,n0,tx0,op0,xs0,p0,va,rfl,hD,hdp,hd0⟩:=Fr.VEx.parts hV;(try simp only [hx,↓reduceIte,Fr.bB]at HX);replace HL:=hid (con_add (HC.out.ce.rg.ex _) hx HL.out);have HF2:=Fr.PF.call HB.out HF.out hr hps;replace HF2:=Fr.Fm.since HF.out HF2 hd0;replace HF:=hid HF2;clear HF2 hr hps hx hd0));rotate_left;(focus((try simp only [hx,↓reduceIte,Fr.bB]at HX);have HR:=hid (rd_trans HF.out.gr hr);clear hr hx));rotate_left)
     rotate_left
     ·go_simp
      exact⟨rfl,HR.out,.inr ⟨_,Fr.loop_no HO.out HY.out.1 (HZ.out ▸ HX.out),rfl⟩⟩
     go_simp
     refine hK.out _ _ (fun _=>⟨HF.out.ltAt 0 rfl,HF.out.cellAt 0 rfl 0 rfl,HF.out.cellAt 0 rfl 1 rfl,HF.out.cellAt 0 rfl 2 rfl,HF.out.cellAt 0 rfl 3 rfl,HF.out.cellAt 0 rfl 4 rfl,HF.out.cellAt 0 rfl 5 rfl⟩) fun hS=>?_;clear hK K
     try simp only [Act.put,zA,z0,z1]
     refine rd1 (i:=3) (by kernel_rfl) (.cons rfl (fun K hK=>?_) .nil)
     refine(if_pos (by rfl)).mpr ?_
     refine Fr.ow_lit2 HF.out Tryz.underlying47 tyE (by simp) (by simp) rfl rfl rfl rfl rfl rfl rfl (row:=exD (Fr.idx e acc)) (row2:=exD ta) ?_ ?_ ?_
     focus(rw [HD2.out.1];(repeat' (first|exact Da.row_nil _ _|exact Da.Is.int _|exact Da.Is.str _|exact HF.out.da 1 _ _ rfl|refine Da.row_cons ?_ ?_)))
     focus(rw [hD];(repeat' (first|exact Da.row_nil _ _|exact Da.Is.int _|exact Da.Is.str _|exact HF.out.da 0 _ _ rfl|refine Da.row_cons ?_ ?_)))
     intro b1 W1 HF1
     replace HF:=hid HF1;clear HF1
     refine hK.out _ _ (fun _=>⟨HF.out.ltAt 0 rfl,HF.out.cellAt 0 rfl 0 rfl,HF.out.cellAt 0 rfl 1 rfl,HF.out.cellAt 0 rfl 2 rfl,HF.out.cellAt 0 rfl 3 rfl,HF.out.cellAt 0 rfl 4 rfl,HF.out.cellAt 0 rfl 5 rfl⟩) fun hS=>?_;clear hK K
     try simp only [Act.put,zA,z0,z1]
     refine tkM (n:=8) (is:=[6]) (k:=1) rfl (by kernel_rfl) hS ?_
     repeat(refine wT (v:=?_) rfl (by rfl) (fun X xb=>?_) ?_;rotate_left 1;(focus(go_simp;try with_reducible rfl));try simp only [Act.put,zA,z0,z1])
     refine wE fun hS=>?_
     refine rd1 (i:=7) (by kernel_rfl) (.cons rfl (fun K hK=>?_) .nil)
     refine(if_pos (by rfl)).mpr ?_
     (first|(refine Fr.ow_store 0 HF.out tyE rfl rfl rfl rfl rfl rfl (z4 rfl) oT ?_))
     intro W1 HF1
     simp only [setL,z0,z1]at HF1;replace HF:=hid HF1;clear HF1
     refine hK.out _ _ (fun h=>absurd h (by simp [Fr.setAll])) fun hS=>?_;clear hK K
     try simp only [Act.put,zA,z0,z1]
     refine wpAnyG_done (by kernel_rfl) ?_ _
     clear hS
     go_wp2_with (first
      | (go_at_call 100;(with_reducible refine(took_any _ B bp en _ [44] HF.out.kp).mono ?_);rintro e W1 ⟨rfl,hr,hps⟩;have HL0:=HL;replace HL:=hid (Fr.took_add [44] HL.out);replace HF:=hid (Fr.PF.call HB.out HF.out hr hps);clear hr hps))
     obtain⟨fu3,h1,h2,h3,h4,h5⟩:=Fr.loop_ok (w:=Tr.comma) HY.out (HZ.out.symm.trans HX.out) (show l1.length<lc2.length by have:=HL0.out;omega)
     go_roundg (Tr.meas (Tr.isS [44] l1) (Tr.took [44] l1).2)
     case rel=>exact⟨_,_,_,fu3,10,0,p2,[],[],_,_,rfl,rfl,hid (HF.out.pick [0,1] [0] (by decide) (by simp) (by simp)),hid ⟨by rw [Fr.idx_snoc,Fr.exD_mk,HD2.out.2];rfl,by rw [Fr.idx_snoc];exact HD2.out.2⟩,hid ⟨h1,h2,h3,h4,h5⟩⟩
     case measure=>rw [HG2.out];exact Tr.meas_lt (show l1.length<lc2.length by have:=HL0.out;omega)
  ·skip
   obtain⟨f2,rfl⟩:∃ f2,fu=f2+1:=⟨fu - 1,by have h1:=HL.out;have h2:=HM.out;omega⟩
   go_roundg lc.tail.length
   case rel=>exact⟨11,0,_,[],[],_,_,(),.mk 11 0 [] [] [e] (Tr.exPos e),lc.tail,f2,rfl,hid (HF.out.pick [0,1] [0] (by decide) (by simp) (by simp)),hid ⟨by rw [Fr.exD_mk,HD.out.2];first|rfl|(simp only [exDs];rfl),HD.out.2⟩,hid ⟨HX.out,by have h1:=HL.out;have h2:=HM.out;omega,by have h1:=HL.out;have h2:=HM.out;omega⟩⟩
   case measure=>rw [HG.out];have h1:=HL.out;omega
  ·skip
   replace HF:=hid (HF.out.close (k:=0) rfl)
   obtain⟨f2,rfl⟩:∃ f2,fu=f2+1:=⟨fu - 1,by have h1:=HL.out;have h2:=HM.out;omega⟩
   go_roundg l1.length
   case rel=>exact⟨12,0,_,[],[],_,_,(),.mk 12 0 [] [] [e] (Tr.exPos e),l1,f2,rfl,hid (HF.out.pick [1,2] [0] (by decide) (by simp) (by simp)),hid ⟨by rw [Fr.exD_mk,HD.out.2];first|rfl|(simp only [exDs];rfl),HD.out.2⟩,hid ⟨HX.out,by have h1:=HL.out;have h2:=HM.out;omega,by have h1:=HL.out;have h2:=HM.out;omega⟩⟩
   case measure=>rw [HG.out];have h1:=HL.out;omega
  ·obtain⟨Y,hY⟩:∃ Y,Y=Tr.manyC Tr.comma r.ex (lc.length+1) lc.tail:=⟨_,rfl⟩
   have HX1:=HX.out
   rw [← hY]at HX1
   replace HX:=hid HX1
   clear HX1
   rw [Tr.loopx_start]at hY
   have hlen:=HF.out.kp.len
   have hle:lc.tail.length≤lc.length:=by simp
   have HF3:=hid (show Fr.PF w B bp en lc.tail _ [.blk b4 [.int .i64 12,.int .i64 0,.string ⟨#[]⟩,.string ⟨#[]⟩,.slice (some ⟨b1,0,none⟩) 1 1,.int .i64 p],.row (.slice (some ⟨b1,0,none⟩) 1 1) 53 6 ([exD e]++exDs []),.blk b2 zE] []from HF.out.pick [1,0,2] [] (by decide) (by simp) (by simp))
   have HY:=hid (show Y=LoopX Tr.comma r.ex [] true lc.tail lc.length∧lc.tail.length≤lc.length∧lc.tail.length+(0+1)≤lc.length∧([]:List (Tr.Ex)).length+lc.tail.length≤6000∧(true=true∨([]:List (Tr.Ex)) ≠ [])from⟨hY,hle,HL.out,by simpa using hlen,.inl rfl⟩)
   clear hY
   try simp only [Act.put,zA,z0,z1]
   go_loopg [6] (Tr.meas true lc.tail) (fun g v6 wr=>∃(acc:List (Tr.Ex)) (more:Bool) (lc2:List Tr.Tok) (fu2:Nat) (vl:Value),g=Tr.meas more lc2∧v6=.bool more∧RowKit.Hid (Fr.PF w B bp en lc2 wr [.blk b4 [.int .i64 12,.int .i64 0,.string ⟨#[]⟩,.string ⟨#[]⟩,vl,.int .i64 p],.row vl 53 6 ([exD e]++exDs acc),.blk b2 zE] [])∧RowKit.Hid (Y=LoopX Tr.comma r.ex acc more lc2 fu2∧lc2.length≤fu2∧lc2.length+(0+1)≤lc.length∧acc.length+lc2.length≤6000∧(more=true∨acc ≠ [])))
   case atStart=>exact⟨[],true,lc.tail,lc.length,.slice (some ⟨b1,0,none⟩) 1 1,rfl,rfl,HF3,HY⟩
   case round =>
    clear HF HF3 HY HL
    obtain⟨acc,more,lc2,fu2,vl,hg2,hm2,HF,HY⟩:=hrel
    subst hm2
    cases more with
    | false =>
     have HX1:=HX.out
     rw [HY.out.1,Tr.loopx_end,Fr.bind_ok]at HX1
     replace HX:=hid HX1
     have HL:=hid HY.out.2.2.1
     clear HX1 hg2 HY
     go_wp2_with (first
      | (go_at_call 98;(with_reducible refine(skip_any _ B bp en _ _ HF.out.kp).mono ?_);rintro e W1 ⟨hr,⟨_,l1,v,hx,hps,rfl,rfl⟩|⟨q,hx,rfl⟩⟩;(focus((try simp only [hx,↓reduceIte,Fr.bB]at HX);replace HL:=hid (con_add (Tr.con_skip en _ _) hx HL.out);replace HF:=hid (Fr.PF.call HB.out HF.out hr hps);clear hr hps hx));rotate_left;(focus((try simp only [hx,↓reduceIte,Fr.bB]at HX);have HR:=hid (rd_trans HF.out.gr hr);clear hr hx));rotate_left))
     all_goals first|(exact⟨rfl,HR.out,.inr ⟨_,HX.out,rfl⟩⟩)|skip
     replace HF:=hid (HF.out.close (k:=1) rfl)
     obtain⟨f2,rfl⟩:∃ f2,fu=f2+1:=⟨fu - 1,by have h1:=HL.out;have h2:=HM.out;omega⟩
     go_roundg l1.length
     case rel=>exact⟨12,0,_,[],[],_,_,(),.mk 12 0 [] [] (e::acc) (Tr.exPos e),l1,f2,rfl,hid (HF.out.pick [0,2] [0] (by decide) (by simp) (by simp)),hid ⟨by rw [Fr.exD_mk,HD.out.2];simp only [exDs,List.cons_append,List.nil_append],HD.out.2⟩,hid ⟨HX.out,by have h1:=HL.out;have h2:=HM.out;omega,by have h1:=HL.out;have h2:=HM.out;omega⟩⟩
     case measure=>rw [HG.out];have h1:=HL.out;omega
    | true =>
     have HG2:=hid hg2
     clear hg2
     have HM:=hid (show lc2.length+(0+1)≤l.length by have h1:=HY.out.2.2.1;have h2:=HMO.out;omega)
     have HL:=hid (show lc2.length+0≤lc2.length from Nat.le_refl _)
     obtain⟨Z,hZ⟩:∃ Z,Z=r.ex lc2:=⟨_,rfl⟩
     have HZ:=hid hZ
     have HO:=HX
     replace HX:=hid hZ
     have HAc:=hid HY.out.2.2.2.1
     clear hZ
     go_wp2
     all_goals first|(exact⟨rfl,HR.out,.inr ⟨_,Fr.loop_no HO.out HY.out.1 (HZ.out ▸ HX.out),rfl⟩⟩)|skip
     replace HF:=hid HF.out.drew
     refine wp_region_G (UpTo 7 (fun X=>b4<X.heap.size∧X.cell? ⟨b4,4,none⟩=some vl)) 8 (by kernel_rfl) (by kernel_rfl) (fun _=>⟨HF.out.ltAt 0 rfl,HF.out.cellAt 0 rfl 4 rfl⟩) (fun _ hS=>?_)
     generalize World.drew _=W1 at HF hS ⊢
     refine tkM (n:=8) (is:=[0]) (k:=1) rfl (by kernel_rfl) hS ?_
     repeat(refine wT (v:=?_) rfl (by rfl) (fun X xb=>?_) ?_;rotate_left 1;(focus(go_simp;try with_reducible rfl));try simp only [Act.put,zA,z0,z1])
     refine wE fun hS=>?_
     refine tkB (n:=8) (is:=[1]) [[1]] (k:=1) rfl (by kernel_rfl) hS ?_
     repeat(refine wT (v:=?_) rfl (by rfl) (fun X xb=>?_) ?_;rotate_left 1;(focus(go_simp;try with_reducible rfl));try simp only [Act.put,zA,z0,z1])
     refine wE fun hS=>?_
     refine tkM (n:=8) (is:=[2]) (k:=1) rfl (by kernel_rfl) hS ?_
     repeat(refine wT (v:=?_) rfl (by rfl) (fun X xb=>?_) ?_;rotate_left 1;(focus(go_simp;try with_reducible rfl));try simp only [Act.put,zA,z0,z1])
     refine wE fun hS=>?_
     refine rd1 (i:=3) (by kernel_rfl) (.cons rfl (fun K hK=>?_) .nil)
     go_simp
     (go_at_call 147;(with_reducible refine(HC.out.ce.ex _ B bp _ (by have h1:=HL.out;have h2:=HN.out;(try have h3:=HM.out);omega) HF.out.kp).mono ?_);rintro e W1 ⟨hr,⟨ta,l1,v,hx,hps,rfl,hV⟩|⟨q,hx,rfl⟩⟩;(focus(obtain⟨k0,n0,tx0,op0,xs0,p0,va,rfl,hD,hdp,hd0⟩:=Fr.VEx.parts hV;(try simp only [hx,↓reduceIte,Fr.bB]at HX);replace HL:=hid (con_add (HC.out.ce.rg.ex _) hx HL.out);have HF2:=Fr.PF.call HB.out HF.out hr hps;replace HF2:=Fr.Fm.since HF.out HF2 hd0;replace HF:=hid HF2;clear HF2 hr hps hx hd0));rotate_left;(focus((try simp only [hx,↓reduceIte,Fr.bB]at HX);have HR:=hid (rd_trans HF.out.gr hr);clear hr hx));rotate_left)
     rotate_left
     ·go_simp
      exact⟨rfl,HR.out,.inr ⟨_,Fr.loop_no HO.out HY.out.1 (HZ.out ▸ HX.out),rfl⟩⟩
     go_simp
     refine hK.out _ _ (fun _=>⟨HF.out.ltAt 0 rfl,HF.out.cellAt 0 rfl 4 rfl⟩) fun hS=>?_;clear hK K
     try simp only [Act.put,zA,z0,z1]
     refine rd1 (i:=4) (by kernel_rfl) (.cons rfl (fun K hK=>?_) .nil)
     refine(if_pos (by rfl)).mpr ?_
     refine Fr.ow_lit1 HF.out Tryz.underlying47 tyE (by simp) (by simp) rfl rfl rfl rfl (row:=exD ta) ?_ ?_
     focus(rw [hD];(repeat' (first|exact Da.row_nil _ _|exact Da.Is.int _|exact Da.Is.str _|exact HF.out.da 0 _ _ rfl|refine Da.row_cons ?_ ?_)))
     intro b1 W1 HF1
     replace HF:=hid HF1;clear HF1
     refine hK.out _ _ (fun _=>⟨HF.out.ltAt 0 rfl,HF.out.cellAt 0 rfl 4 rfl⟩) fun hS=>?_;clear hK K
     try simp only [Act.put,zA,z0,z1]
     refine rd1 (i:=5) (by kernel_rfl) (.cons rfl (fun K hK=>?_) .nil)
     refine(if_pos (by rfl)).mpr ?_
     refine Fr.ow_append 1 0 HF.out Tryz.underlying47 tyE (by simp) (by simp) rfl rfl rfl rfl rfl rfl ?_ ?_
     focus(have h1:=HAc.out;simp only [List.length_append,List.length_cons,List.length_nil,Fr.exDs_len'];omega)
     intro v1 W1 HF1
     simp only [setL,z0,z1]at HF1;replace HF:=hid HF1;clear HF1
     refine hK.out _ _ (fun _=>⟨HF.out.ltAt 0 rfl,HF.out.cellAt 0 rfl 4 rfl⟩) fun hS=>?_;clear hK K
     try simp only [Act.put,zA,z0,z1]
     refine tkM (n:=8) (is:=[6]) (k:=1) rfl (by kernel_rfl) hS ?_
     repeat(refine wT (v:=?_) rfl (by rfl) (fun X xb=>?_) ?_;rotate_left 1;(focus(go_simp;try with_reducible rfl));try simp only [Act.put,zA,z0,z1])
     refine wE fun hS=>?_
     refine rd1 (i:=7) (by kernel_rfl) (.cons rfl (fun K hK=>?_) .nil)
     refine(if_pos (by rfl)).mpr ?_
     (first|((refine Fr.ow_store1 0 HF.out Fr.tySE rfl rfl rfl rfl rfl rfl ?_ ?_);(focus(exact HF.out.rowOne 1 rfl))))
     intro W1 HF1
     simp only [setL,z0,z1]at HF1;replace HF:=hid HF1;clear HF1
     refine hK.out _ _ (fun h=>absurd h (by simp [Fr.setAll])) fun hS=>?_;clear hK K
     try simp only [Act.put,zA,z0,z1]
     refine wpAnyG_done (by kernel_rfl) ?_ _
     clear hS
     go_wp2_with (first
      | (go_at_call 100;(with_reducible refine(took_any _ B bp en _ [44] HF.out.kp).mono ?_);rintro e W1 ⟨rfl,hr,hps⟩;have HL0:=HL;replace HL:=hid (Fr.took_add [44] HL.out);replace HF:=hid (Fr.PF.call HB.out HF.out hr hps);clear hr hps))
     obtain⟨fu',h1,h2,h3,h4,h5⟩:=Fr.loop_ok (w:=Tr.comma) HY.out (HZ.out.symm.trans HX.out) (show l1.length<lc2.length by have:=HL0.out;omega)
     go_roundg (Tr.meas (Tr.isS [44] l1) (Tr.took [44] l1).2)
     case rel=>exact⟨_,_,_,fu',_,rfl,rfl,hid (by rw [Fr.exDs_snoc,← List.append_assoc];exact HF.out.pick [0,1,2] [] (by decide) (by simp) (by simp)),hid ⟨h1,h2,h3,h4,h5⟩⟩
     case measure=>rw [HG2.out];exact Tr.meas_lt (show l1.length<lc2.length by have:=HL0.out;omega)
  ·refine bodyPost_ret (Fr.fm_results 1 HF.out Tryz.results189 rfl rfl Tryz.underlying53 rfl tyE rfl) rfl ?_
   exact⟨Fr.PF.rd HF.out,.inl ⟨_,_,_,HX.out,Fr.PF.ps HF.out,rfl,Fr.vex_of HD.out.1 (HF.out.out 0 rfl)⟩⟩
end Go.Proofs.YtlhmkfcbldghfaaGreatDoor
