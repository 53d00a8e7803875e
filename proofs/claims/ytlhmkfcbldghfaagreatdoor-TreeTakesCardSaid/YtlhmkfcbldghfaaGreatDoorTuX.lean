/- What the readers of types and statements want of each other;the walk of tree's parser's open. Conditions: the parser's block is as it is made;shorter texts are read as they should be. -/
import Derived.Test.YtlhmkfcbldghfaaGreatDoorFmY
import Derived.Test.YtlhmkfcbldghfaaGreatDoorFmX
import Derived.Test.YtlhmkfcbldghfaaGreatDoorRegX
namespace Go.Proofs.YtlhmkfcbldghfaaGreatDoor
set_option linter.all false
open Go.Lib (hid)
set_option maxRecDepth 1000000
set_option maxHeartbeats 16000000
open Go.RowKit
open Fr (bind_ok con_add fld_tok0 fld_tok1 fld_tok3 is_alloc is_lit is_load is_nil is_store pf_start setL tkM tyT tyTok wE wT wl_alloc wl_lit1 wl_load1 wl_store)
open Tr (LoopX con_skip exDs fdDs rd_trans tyD tyDs)
namespace Fr
open Da Tr
theorem VEx.parts{lo:Nat}{w:World}{v:Value}{e:Ex}(h:VEx lo w v e):∃ k n t o xs p va,v=.agg #[.int .i64 k,.int .i64 n,.string ⟨t.toArray⟩,.string ⟨o.toArray⟩,va,.int .i64 p]∧exD e=[.int k,.int n,.str t,.str o,.list 6 (exDs xs),.int p]∧exPos e=p∧Is w (fun b=>lo≤b) va (.list 6 (exDs xs)):=by
 obtain⟨k,n,t,o,xs,p⟩:=e
 obtain⟨va,rfl,h⟩:=h
 exact⟨k,n,t,o,xs,p,va,rfl,by rw [exD],rfl,h⟩
theorem VTy.open{lo:Nat}{w:World}{v:Value}{t:Ty}(h:VTy lo w v t):∃ k m n ls el ba fs ps rs p v3 v4 v5 v6 v7 v8,v=.agg #[.int .i64 k,.string ⟨m.toArray⟩,.string ⟨n.toArray⟩,v3,v4,v5,v6,v7,v8,.int .i64 p] ∧
  tyD t=[.int k,.str m,.str n,.list 6 (exDs ls),.list 10 (tyDs el),.list 10 (tyDs ba),.list 13 (fdDs fs),.list 13 (fdDs ps),.list 10 (tyDs rs),.int p] ∧
  Is w (fun b=>lo≤b) v3 (.list 6 (exDs ls))∧Is w (fun b=>lo≤b) v4 (.list 10 (tyDs el))∧Is w (fun b=>lo≤b) v5 (.list 10 (tyDs ba))∧Is w (fun b=>lo≤b) v6 (.list 13 (fdDs fs))∧Is w (fun b=>lo≤b) v7 (.list 13 (fdDs ps))∧Is w (fun b=>lo≤b) v8 (.list 10 (tyDs rs)):=by
 obtain⟨k,m,n,ls,el,ba,fs,ps,rs,p⟩:=t
 obtain⟨v3,v4,v5,v6,v7,v8,h0,h1,h2,h3,h4,h5,h6⟩:=h.parts
 exact⟨k,m,n,ls,el,ba,fs,ps,rs,p,v3,v4,v5,v6,v7,v8,h0,by rw [tyD],h1,h2,h3,h4,h5,h6⟩
structure CR(en:Int)(n:Nat)(r:Rc):Prop where
 ce:CE en n r
 ty:∀ w B bp l,l.length<n→PS w B bp en l→Calls Tryz.prog 148 #[.pointer (some ⟨bp,0,none⟩)] w (Res w B bp en (r.ty l) (VTy w.heap.size))
 op:∀ w B bp l,l.length<n→PS w B bp en l→Calls Tryz.prog 220 #[.pointer (some ⟨bp,0,none⟩)] w (Res w B bp en (r.op l) (VTy w.heap.size))
 st:∀ w B bp l,l.length<n→PS w B bp en l→Calls Tryz.prog 104 #[.pointer (some ⟨bp,0,none⟩)] w (Res w B bp en (r.st l) (VSts w.heap.size))
abbrev CQ(en:Int):Prop:=∀ n,CV 186 en n (qualP en) VTy
end Fr
theorem open_any(en:Int)(n:Nat)(r:Tr.Rc)(hC:Fr.CR en n r)(hQ:Fr.CQ en):Fr.CV 220 en n (Tr.openP en r) Fr.VTy:=by
 intro w B bp l hl hp
 obtain⟨X,hX⟩:∃ X,X=Tr.openP en r l:=⟨_,rfl⟩
 rw [show Tr.openP en r l=X from hX.symm]
 unfold Tr.openP at hX
 have HX:=hid hX
 have HB:RowKit.Hid (B≤w.heap.size):=hp.size
 have HF:=hid (pf_start hp)
 have HL:=hid (show l.length+0≤l.length from Nat.le_refl _)
 have HN:=hid hl
 have HC:=hid hC
 have HQ:=hid hQ
 clear hC hQ
 have hfl0:=fld_tok0
 have hfl1:=fld_tok1
 have hfl3:=fld_tok3
 clear hX hp hl
 go_enter Tryz.func220,Tryz.ntmps220
 go_wp2_with (first
  | ((with_reducible refine is_alloc ?_);(first|(refine wl_alloc HF.out tyT ?_));intro b W1 HF1;replace HF:=hid HF1;clear HF1)
  | (first|((with_reducible refine is_store (T:=123) ?_);(first|(refine wl_store 0 HF.out tyT rfl rfl rfl rfl rfl (z4 rfl) oT ?_));intro W1 HF1;simp only [setL,z0,z1]at HF1;replace HF:=hid HF1;clear HF1))
  | (go_at_call 97;(with_reducible refine(Fr.peek_split _ B bp en _ HF.out.kp).mono ?_);rintro e W1 ⟨hb,kd,t2,n2,q2,hpk,hq,rfl,-⟩;(try simp only [hq,↓reduceIte,Fr.bB]at HX);replace HF:=hid (HF.out.below hb);clear hb hpk hq)
  | (go_at_call 100;(with_reducible refine(Fr.took_split _ B bp en _ _ HF.out.kp).mono ?_);rintro e W1 ⟨hr,⟨hs,rfl,hps⟩|⟨hs,rfl,hps⟩⟩;(focus((try simp only [hs,↓reduceIte,Fr.bB]at HX);replace HF:=hid (Fr.PF.call HB.out HF.out hr hps);replace HL:=hid (Fr.tail_add hs HL.out);clear hr hps hs));rotate_left;(focus((try simp only [hs,↓reduceIte,Fr.bB]at HX);replace HF:=hid (Fr.PF.call HB.out HF.out hr hps);clear hr hps hs));rotate_left)
  | (go_at_call 98;(with_reducible refine(skip_any _ B bp en _ _ HF.out.kp).mono ?_);rintro e W1 ⟨hr,⟨_,l1,v,hx,hps,rfl,rfl⟩|⟨q,hx,rfl⟩⟩;(focus((try simp only [hx,↓reduceIte,Fr.bB]at HX);replace HL:=hid (con_add (con_skip en _ _) hx HL.out);replace HF:=hid (Fr.PF.call HB.out HF.out hr hps);clear hr hps hx));rotate_left;(focus((try simp only [hx,↓reduceIte,Fr.bB]at HX);have HR:=hid (rd_trans HF.out.gr hr);clear hr hx));rotate_left)
  | (go_at_call 186;(with_reducible refine(HQ.out n _ B bp _ (by have h1:=HL.out;have h2:=HN.out;(try have h3:=HM.out);omega) HF.out.kp).mono ?_);rintro e W1 ⟨hr,⟨ta,l1,v,hx,hps,rfl,hV⟩|⟨q,hx,rfl⟩⟩;(focus(obtain⟨k0,m0,n0,ls0,el0,ba0,fs0,ps0,rs0,p0,v3,v4,v5,v6,v7,v8,rfl,hD,hd0,hd1,hd2,hd3,hd4,hd5⟩:=Fr.VTy.open hV;(try simp only [hx,↓reduceIte,Fr.bB]at HX);replace HL:=hid (con_add (Tr.con_qual en _) hx HL.out);have HF2:=Fr.PF.call HB.out HF.out hr hps;replace HF2:=Fr.Fm.since HF.out HF2 hd5;replace HF2:=Fr.Fm.since HF.out HF2 hd4;replace HF2:=Fr.Fm.since HF.out HF2 hd3;replace HF2:=Fr.Fm.since HF.out HF2 hd2;replace HF2:=Fr.Fm.since HF.out HF2 hd1;replace HF2:=Fr.Fm.since HF.out HF2 hd0;replace HF:=hid HF2;clear HF2 hr hps hx hd0 hd1 hd2 hd3 hd4 hd5));rotate_left;(focus((try simp only [hx,↓reduceIte,Fr.bB]at HX);have HR:=hid (rd_trans HF.out.gr hr);clear hr hx));rotate_left)
  | (go_at_call 220;(with_reducible refine(HC.out.op _ B bp _ (by have h1:=HL.out;have h2:=HN.out;(try have h3:=HM.out);omega) HF.out.kp).mono ?_);rintro e W1 ⟨hr,⟨ta,l1,v,hx,hps,rfl,hV⟩|⟨q,hx,rfl⟩⟩;(focus(obtain⟨k0,m0,n0,ls0,el0,ba0,fs0,ps0,rs0,p0,v3,v4,v5,v6,v7,v8,rfl,hD,hd0,hd1,hd2,hd3,hd4,hd5⟩:=Fr.VTy.open hV;(try simp only [hx,↓reduceIte,Fr.bB]at HX);replace HL:=hid (con_add (HC.out.ce.rg.op _) hx HL.out);have HF2:=Fr.PF.call HB.out HF.out hr hps;replace HF2:=Fr.Fm.since HF.out HF2 hd5;replace HF2:=Fr.Fm.since HF.out HF2 hd4;replace HF2:=Fr.Fm.since HF.out HF2 hd3;replace HF2:=Fr.Fm.since HF.out HF2 hd2;replace HF2:=Fr.Fm.since HF.out HF2 hd1;replace HF2:=Fr.Fm.since HF.out HF2 hd0;replace HF:=hid HF2;clear HF2 hr hps hx hd0 hd1 hd2 hd3 hd4 hd5));rotate_left;(focus((try simp only [hx,↓reduceIte,Fr.bB]at HX);have HR:=hid (rd_trans HF.out.gr hr);clear hr hx));rotate_left)
  | ((with_reducible refine is_lit ?_);(refine wl_lit1 HF.out Tryz.underlying65 tyT (by simp) (by simp) rfl rfl rfl (tyD ta) ?_ ?_);(focus(rw [hD];(repeat' (first|exact Da.row_nil _ _|exact Da.Is.int _|exact Da.Is.str _|(refine HF.out.isM ?_;simp;done)|refine Da.row_cons ?_ ?_))));intro b W1 HF1;replace HF:=hid HF1;clear HF1))
 all_goals first|(exact⟨rfl,HR.out,.inr ⟨_,HX.out,rfl⟩⟩)|skip
 all_goals
  refine bodyPost_ret (Fr.fm_results 0 HF.out Tryz.results220 rfl rfl Tryz.underlying123 rfl tyT rfl) rfl ?_
  refine⟨Fr.PF.rd HF.out,.inl ⟨_,_,_,HX.out,Fr.PF.ps HF.out,rfl,_,rfl,?_⟩⟩
  first
   | (rw [hD];(repeat' (first|exact Da.row_nil _ _|exact Da.Is.int _|exact Da.Is.str _|exact HF.out.out 0 rfl|exact HF.out.out 1 rfl|exact HF.out.out 2 rfl|exact HF.out.out 3 rfl|exact HF.out.out 4 rfl|exact HF.out.out 5 rfl|refine Da.row_cons ?_ ?_));done)
   | (simp only [tyD,exDs,tyDs,fdDs];(repeat' (first|exact Da.row_nil _ _|exact Da.Is.int _|exact Da.Is.str _|exact is_nil _|exact HF.out.out 0 rfl|refine Da.row_cons ?_ ?_)))
namespace Fr
open Da Tr
theorem took_add{l:List Tok}{N c:Nat}(tx:List UInt8)(hl:l.length+c≤N):(took tx l).2.length+c≤N:=by
 have:=took_len tx l;omega
theorem took_fst(tx:List UInt8)(l:List Tok):(took tx l).1=isS tx l:=by unfold took;cases isS tx l <;> rfl
theorem loop_no{α β:Type}{w:List UInt8}{F:List Tok→Tr.R α}{acc:List α}{lc:List Tok}{fu:Nat}{q:Int}{X:Tr.R β}{Y:Tr.R (List α)}{f:List α→List Tok→Tr.R β}(hX:X=Y.bind f)(hY:Y=LoopX w F acc true lc fu)(h:F lc=.no q):X=.no q:=by
 rw [hX,hY,loopx_no h];rfl
theorem loop_ok{α:Type}{w:List UInt8}{F:List Tok→Tr.R α}{acc:List α}{lc l1:List Tok}{fu c0 N0 M:Nat}{a:α}{Y:Tr.R (List α)}{E:Prop}(hY:Y=LoopX w F acc true lc fu∧lc.length≤fu∧lc.length+c0≤N0∧acc.length+lc.length≤M∧E)(h:F lc=.ok a l1)(hs:l1.length<lc.length) :
  ∃ fu',Y=LoopX w F (acc++[a]) (isS w l1) (took w l1).2 fu'∧(took w l1).2.length≤fu'∧(took w l1).2.length+c0≤N0∧(acc++[a]).length+(took w l1).2.length≤M∧(isS w l1=true∨acc++[a] ≠ []):=by
 obtain⟨h1,h2,h3,h4,_⟩:=hY
 obtain⟨fu',h5,h6⟩:=loopx_ok (w:=w) (acc:=acc) h h2 hs
 have h7:=took_len w l1
 exact⟨fu',h1.trans h5,h6,by omega,by simp;omega,.inr (by simp)⟩
def paZ(b:Bool)(t:Tok):List D:=[.str t.2.1,.bool b,.int 0,.str [],.str [],.list 6 [],.list 10 [],.list 10 [],.list 13 [],.list 13 [],.list 10 [],.int 0,.int t.2.2.2]
def paF(b:Bool)(ty:Ty)(t:Tok):List D:=fdD (t.2.1,b,ty,t.2.2.2)
theorem paZ_set{b:Bool}{t:Tok}{ty:Ty}{k m n ls el ba fs ps rs p}(h:tyD ty=[.int k,.str m,.str n,ls,el,ba,fs,ps,rs,.int p]):setG (paZ b t) 2 (tyD ty)=paF b ty t:=by
 simp [paZ,paF,fdD,h,setG]
def rowsA{α:Type}(z f:α→List D)(xs:List α)(i:Nat):List (List D):=(xs.take i).map f++(xs.drop i).map z
theorem rowsA_zero{α:Type}(z f:α→List D)(xs:List α):rowsA z f xs 0=xs.map z:=by simp [rowsA]
theorem rowsA_end{α:Type}(z f:α→List D)(xs:List α):rowsA z f xs xs.length=xs.map f:=by simp [rowsA]
theorem rowsA_len{α:Type}(z f:α→List D)(xs:List α)(i:Nat):(rowsA z f xs i).length=xs.length:=by simp [rowsA];omega
theorem rowsA_at{α:Type}(z f:α→List D)(xs:List α)(i:Nat)(h:i<xs.length):(rowsA z f xs i)[i]?=some (z xs[i]):=by
 unfold rowsA
 rw [List.getElem?_append_right (by simp;omega)]
 simp [Nat.min_eq_left (Nat.le_of_lt h),h]
theorem rowsA_set{α:Type}(z f:α→List D)(xs:List α)(i:Nat)(h:i<xs.length):(rowsA z f xs i).set i (f xs[i])=rowsA z f xs (i+1):=by
 apply List.ext_getElem?
 intro m
 rw [List.getElem?_set]
 by_cases hm:i=m
 ·subst hm
  rw [if_pos rfl,if_pos (by rw [rowsA_len];exact h)]
  unfold rowsA
  rw [List.getElem?_append_left (by simp;omega)]
  simp [h,List.getElem?_take]
 ·rw [if_neg hm]
  unfold rowsA
  by_cases h2:m<i
  ·rw [List.getElem?_append_left (by simp;omega),List.getElem?_append_left (by simp;omega)]
   simp [List.getElem?_take,h2,Nat.lt_succ_of_lt h2]
  ·rw [List.getElem?_append_right (by simp;omega),List.getElem?_append_right (by simp;omega)]
   simp only [List.length_map,List.length_take,Nat.min_eq_left (Nat.le_of_lt h),Nat.min_eq_left (Nat.succ_le_of_lt h),List.getElem?_map,List.getElem?_drop]
   rw [show i+(m - i)=m by omega,show i+1+(m - (i+1))=m by omega]
def fiZ(x:Tok × Bool):List D:=paZ x.2 x.1
def fiF(ty:Ty)(x:Tok × Bool):List D:=paF x.2 ty x.1
theorem fiZ_set{x:Tok × Bool}{ty:Ty}{k m n ls el ba fs ps rs p}(h:tyD ty=[.int k,.str m,.str n,ls,el,ba,fs,ps,rs,.int p]):setG (fiZ x) 2 (tyD ty)=fiF ty x:=paZ_set h
end Fr
theorem section_any(en:Int)(n:Nat)(r:Tr.Rc)(hC:Fr.CR en n r)(hQ:Fr.CQ en):Fr.CV 188 en n (Tr.sectionP en r) Fr.VFds:=by
 intro w B bp l hl hp
 obtain⟨X,hX⟩:∃ X,X=Tr.sectionP en r l:=⟨_,rfl⟩
 rw [show Tr.sectionP en r l=X from hX.symm]
 unfold Tr.sectionP at hX
 have HX:=hid hX
 have HB:RowKit.Hid (B≤w.heap.size):=hp.size
 have HF:=hid (pf_start hp)
 have HL:=hid (show l.length+0≤l.length from Nat.le_refl _)
 have HN:=hid hl
 have HC:=hid hC
 have HQ:=hid hQ
 clear hC hQ
 have hfl0:=fld_tok0
 have hfl1:=fld_tok1
 have hfl3:=fld_tok3
 clear hX hp hl
 go_enter Tryz.func188,Tryz.ntmps188
 go_wp2_with (first
  | (go_at_call 100;(with_reducible refine(took_any _ B bp en _ [86,65,82] HF.out.kp).mono ?_);rintro e W1 ⟨rfl,hr,hps⟩;replace HL:=hid (Fr.took_add [86,65,82] HL.out);replace HF:=hid (Fr.PF.call HB.out HF.out hr hps);clear hr hps))
 obtain⟨Y,hY⟩:∃ Y,Y=Tr.manyC Tr.comma (Tr.nameT en) (l.length+1) (Tr.took [86,65,82] l).2:=⟨_,rfl⟩
 have HX1:=HX.out
 simp only [← hY,Fr.took_fst]at HX1
 replace HX:=hid HX1
 clear HX1
 rw [Tr.loopx_start]at hY
 generalize Tr.isS [86,65,82] l=byN at *
 have hlen:=HF.out.kp.len
 have hcN:=HL.out
 have hfu:(Tr.took [86,65,82] l).2.length≤l.length:=by omega
 generalize (Tr.took [86,65,82] l).2=lc0 at *
 have HY:=hid (show Y=LoopX Tr.comma (Tr.nameT en) [] true lc0 l.length∧lc0.length≤l.length∧lc0.length+0≤l.length∧([]:List (Tr.Tok)).length+lc0.length≤6000∧(true=true∨([]:List (Tr.Tok)) ≠ [])from⟨hY,hfu,hcN,by simpa using hlen,.inl rfl⟩)
 clear hY hfu hcN
 try simp only [Act.put,zA,z0,z1]
 go_loopg [4,5] (Tr.meas true lc0) (fun g v4 v5 wr=>∃(acc:List (Tr.Tok)) (more:Bool) (lc:List Tr.Tok) (fu:Nat),g=Tr.meas more lc∧v5=.bool more∧RowKit.Hid (Fr.PF w B bp en lc wr [.row v4 128 13 (acc.map (Fr.paZ byN))] [])∧RowKit.Hid (Y=LoopX Tr.comma (Tr.nameT en) acc more lc fu∧lc.length≤fu∧lc.length+0≤l.length∧acc.length+lc.length≤6000∧(more=true∨acc ≠ [])))
 case atStart=>exact⟨[],true,lc0,l.length,rfl,rfl,hid (HF.out.own 128 13),HY⟩
 case round =>
  clear HF HY HL
  obtain⟨acc,more,lc,fu,hg,hm,HF,HY⟩:=hrel
  subst hm
  cases more with
  | false =>
   have HX1:=HX.out
   rw [HY.out.1,Tr.loopx_end,bind_ok]at HX1
   replace HX:=hid HX1
   have hac:acc ≠ []:=by have:=HY.out.2.2.2.2;simpa using this
   have HL:=hid HY.out.2.2.1
   have HAc:=hid HY.out.2.2.2.1
   obtain⟨bl,cap,rfl,hcap1,hcap2⟩:∃ b cap:Nat,u4=.slice (some ⟨b,0,none⟩) (acc.map (Fr.paZ byN)).length cap∧(acc.map (Fr.paZ byN)).length≤cap∧cap≤maxLen:=by
    rcases HF.out.rowForm (k:=0) rfl with⟨h,_⟩|h
    ·exact absurd (List.map_eq_nil_iff.1 h) hac
    ·exact h
   rw [List.length_map]at hcap1 HF ⊢
   have hal:acc.length≤6000:=by have:=HAc.out;omega
   have hai:(acc.length:Int)≤6000:=by omega
   clear HX1 hg HY
   go_wp2_with (first
    | (go_at_call 98;(with_reducible refine(skip_any _ B bp en _ _ HF.out.kp).mono ?_);rintro e W1 ⟨hr,⟨_,l1,v,hx,hps,rfl,rfl⟩|⟨q,hx,rfl⟩⟩;(focus((try simp only [hx,↓reduceIte,Fr.bB]at HX);replace HL:=hid (con_add (con_skip en _ _) hx HL.out);replace HF:=hid (Fr.PF.call HB.out HF.out hr hps);clear hr hps hx));rotate_left;(focus((try simp only [hx,↓reduceIte,Fr.bB]at HX);have HR:=hid (rd_trans HF.out.gr hr);clear hr hx));rotate_left)
    | (go_at_call 220;(with_reducible refine(open_any en n r HC.out HQ.out _ B bp _ (by have h1:=HL.out;have h2:=HN.out;(try have h3:=HM.out);omega) HF.out.kp).mono ?_);rintro e W1 ⟨hr,⟨ta,l1,v,hx,hps,rfl,hV⟩|⟨q,hx,rfl⟩⟩;(focus(obtain⟨k0,m0,n0,ls0,el0,ba0,fs0,ps0,rs0,p0,v3,v4,v5,v6,v7,v8,rfl,hD,hd0,hd1,hd2,hd3,hd4,hd5⟩:=Fr.VTy.open hV;(try simp only [hx,↓reduceIte,Fr.bB]at HX);replace HL:=hid (con_add (Tr.con_open en HC.out.ce.rg _) hx HL.out);have HF2:=Fr.PF.call HB.out HF.out hr hps;replace HF2:=Fr.Fm.since HF.out HF2 hd5;replace HF2:=Fr.Fm.since HF.out HF2 hd4;replace HF2:=Fr.Fm.since HF.out HF2 hd3;replace HF2:=Fr.Fm.since HF.out HF2 hd2;replace HF2:=Fr.Fm.since HF.out HF2 hd1;replace HF2:=Fr.Fm.since HF.out HF2 hd0;replace HF:=hid HF2;clear HF2 hr hps hx hd0 hd1 hd2 hd3 hd4 hd5));rotate_left;(focus((try simp only [hx,↓reduceIte,Fr.bB]at HX);have HR:=hid (rd_trans HF.out.gr hr);clear hr hx));rotate_left)
    | ((with_reducible refine is_alloc ?_);(first|(refine wl_alloc HF.out tyT ?_));intro b W1 HF1;replace HF:=hid HF1;clear HF1)
    | (first|((with_reducible refine is_store (T:=123) ?_);(first|(refine wl_store 0 HF.out tyT rfl rfl rfl rfl rfl (z4 rfl) oT ?_));intro W1 HF1;simp only [setL,z0,z1]at HF1;replace HF:=hid HF1;clear HF1)))
   all_goals first|(exact⟨rfl,HR.out,.inr ⟨_,HX.out,rfl⟩⟩)|skip
   replace HF:=hid (show Fr.PF w B bp en _ W1 [.row (.slice (some ⟨bl,0,none⟩) acc.length cap) 128 13 (Fr.rowsA (Fr.paZ byN) (Fr.paF byN ta) acc 0),.blk b [.int .i64 k0,.string ⟨m0.toArray⟩,.string ⟨n0.toArray⟩,v3,v4,v5,v6,v7,v8,.int .i64 p0]] [(v3,.list 6 (exDs ls0)),(v4,.list 10 (tyDs el0)),(v5,.list 10 (tyDs ba0)),(v6,.list 13 (fdDs fs0)),(v7,.list 13 (fdDs ps0)),(v8,.list 10 (tyDs rs0))]from by rw [Fr.rowsA_zero];exact HF.out.pick [1,0] [0,1,2,3,4,5] (by decide) (by simp) (by simp))
   have HD:=hid hD
   clear hD hV
   go_loopg [8,31] acc.length (fun g _ v31 wr2=>∃ i:Nat,i≤acc.length∧g=acc.length - i∧v31=.int .i64 i∧RowKit.Hid (Fr.PF w B bp en l1 wr2 [.row (.slice (some ⟨bl,0,none⟩) acc.length cap) 128 13 (Fr.rowsA (Fr.paZ byN) (Fr.paF byN ta) acc i),.blk b [.int .i64 k0,.string ⟨m0.toArray⟩,.string ⟨n0.toArray⟩,v3,v4,v5,v6,v7,v8,.int .i64 p0]] [(v3,.list 6 (exDs ls0)),(v4,.list 10 (tyDs el0)),(v5,.list 10 (tyDs ba0)),(v6,.list 13 (fdDs fs0)),(v7,.list 13 (fdDs ps0)),(v8,.list 10 (tyDs rs0))]))
   case atStart=>exact⟨0,Nat.zero_le _,rfl,rfl,HF⟩
   case round =>
    clear HF
    obtain⟨i,hi,hg,rfl,HF⟩:=hrel
    have HG:=hid hg
    clear hg
    by_cases hlt:i<acc.length
    ·have hii:(i:Int)<(acc.length:Int):=by omega
     have HR:=hid (Fr.rowsA_at (Fr.paZ byN) (Fr.paF byN ta) acc i hlt)
     go_wp2_with (first
      | (first|((with_reducible refine is_load (T:=123) ?_);(first|(refine Fr.wl_load 1 HF.out rfl rfl Tryz.underlying123 rfl tyT rfl ?_))))
      | ((with_reducible refine is_store ?_);(refine wpList_plain rfl (fun K hK=>?_));(refine Fr.ow_storeRow 0 HF.out tyT rfl rfl rfl (i) 2 (by first|rfl|simp|omega) (HR.out) (by simp [Tr.tyD_len]) rfl rfl rfl (nd:=tyD ta) ?_ ?_);(focus(rw [HD.out];(repeat' (first|exact Da.row_nil _ _|exact Da.Is.int _|exact Da.Is.str _|(refine HF.out.isM ?_;simp;done)|refine Da.row_cons ?_ ?_))));intro W1 HF1;refine hK _ _ ?_;clear hK K;simp only [z0,z1]at HF1;replace HF:=hid HF1;clear HF1))
     replace HF:=hid (show Fr.PF w B bp en l1 W1 [.row (.slice (some ⟨bl,0,none⟩) acc.length cap) 128 13 (Fr.rowsA (Fr.paZ byN) (Fr.paF byN ta) acc (i+1)),.blk b [.int .i64 k0,.string ⟨m0.toArray⟩,.string ⟨n0.toArray⟩,v3,v4,v5,v6,v7,v8,.int .i64 p0]] [(v3,.list 6 (exDs ls0)),(v4,.list 10 (tyDs el0)),(v5,.list 10 (tyDs ba0)),(v6,.list 13 (fdDs fs0)),(v7,.list 13 (fdDs ps0)),(v8,.list 10 (tyDs rs0))]from by
      have h1:=HF.out
      rw [Fr.paZ_set HD.out,Fr.rowsA_set _ _ _ _ hlt]at h1
      exact h1)
     go_roundg (acc.length - (i+1))
     case rel=>exact⟨i+1,hlt,rfl,rfl,HF⟩
     case measure=>rw [HG.out];omega
    ·obtain rfl:i=acc.length:=by omega
     go_wp2
     go_ret
     have HV:=HF.out.close (k:=0) rfl
     rw [Fr.rowsA_end]at HV
     exact⟨Fr.PF.rd HF.out,.inl ⟨_,_,_,HX.out,Fr.PF.ps HF.out,rfl,by
      have:=HV.out 0 rfl
      show Da.Is wr (fun b=>w.heap.size≤b) _ (.list 13 (fdDs _))
      rw [Tr.fdDs_map,List.map_map]
      exact this⟩⟩
  | true =>
   have HG:=hid hg
   clear hg
   have HM:=hid (HY.out.2.2.1)
   have HL:=hid (show lc.length+0≤lc.length from Nat.le_refl _)
   obtain⟨Z,hZ⟩:∃ Z,Z=Tr.nameT en lc:=⟨_,rfl⟩
   have HZ:=hid hZ
   have HO:=HX
   replace HX:=hid hZ
   have HAc:=hid HY.out.2.2.2.1
   clear hZ
   go_wp2_with (first
    | (go_at_call 99;(with_reducible refine(name_any _ B bp en _ HF.out.kp).mono ?_);rintro e W1 ⟨hr,⟨t,l1,v,hx,hps,rfl,hv⟩|⟨q,hx,rfl⟩⟩;(focus(obtain⟨kd,t2,n2,q2⟩:=t;obtain rfl:v=.agg #[.int .i64 kd,.string ⟨t2.toArray⟩,.int .i64 n2,.int .i64 q2]:=hv;(try simp only [hx,↓reduceIte,Fr.bB]at HX);replace HL:=hid (con_add (Tr.con_name en _) hx HL.out);replace HF:=hid (Fr.PF.call HB.out HF.out hr hps);clear hr hps hx));rotate_left;(focus((try simp only [hx,↓reduceIte,Fr.bB]at HX);have HR:=hid (rd_trans HF.out.gr hr);clear hr hx));rotate_left)
    | ((with_reducible refine is_alloc ?_);(first|(refine wl_alloc HF.out tyTok ?_));intro b W1 HF1;replace HF:=hid HF1;clear HF1)
    | (first|((with_reducible refine is_store (T:=40) ?_);(first|(refine wl_store 0 HF.out tyTok rfl rfl rfl rfl rfl (z4 rfl) oT ?_));intro W1 HF1;simp only [setL,z0,z1]at HF1;replace HF:=hid HF1;clear HF1))
    | (first|((with_reducible refine is_load (T:=9) ?_);(first|(refine wl_load1 0 HF.out rfl rfl Tryz.underlying9 rfl rfl ?_)))|((with_reducible refine is_load (T:=3) ?_);(first|(refine wl_load1 0 HF.out rfl rfl Tryz.underlying3 rfl rfl ?_))))
    | ((with_reducible refine is_lit ?_);(refine wl_lit1 HF.out Tryz.underlying64 Fr.tyPa (by simp) (by simp) rfl rfl rfl (Fr.paZ byN (kd,t2,n2,q2)) ?_ ?_);(focus(simp only [Fr.paZ];(repeat' (first|exact Da.row_nil _ _|exact Da.Is.int _|exact Da.Is.str _|exact Da.Is.bool _|exact is_nil _|refine Da.row_cons ?_ ?_))));intro b W1 HF1;replace HF:=hid HF1;clear HF1)
    | ((with_reducible refine Fr.is_append ?_);(refine Fr.wl_append 1 0 HF.out Tryz.underlying64 Fr.tyPa (by simp) (by simp) rfl rfl rfl rfl rfl ?_ ?_);(focus(have:=HAc.out;simp;omega));intro v1 W1 HF1;simp only [setL,z0,z1]at HF1;replace HF:=hid HF1;clear HF1)
    | (go_at_call 100;(with_reducible refine(took_any _ B bp en _ [44] HF.out.kp).mono ?_);rintro e W1 ⟨rfl,hr,hps⟩;have HL0:=HL;replace HL:=hid (Fr.took_add [44] HL.out);replace HF:=hid (Fr.PF.call HB.out HF.out hr hps);clear hr hps))
   all_goals first|(exact⟨rfl,HR.out,.inr ⟨_,Fr.loop_no HO.out HY.out.1 (HZ.out ▸ HX.out),rfl⟩⟩)|skip
   obtain⟨fu',h1,h2,h3,h4,h5⟩:=Fr.loop_ok (w:=Tr.comma) HY.out (HZ.out.symm.trans HX.out) (show l1.length<lc.length by have:=HL0.out;omega)
   go_roundg (Tr.meas (Tr.isS [44] l1) (Tr.took [44] l1).2)
   case rel=>exact⟨_,_,_,fu',rfl,rfl,hid (by rw [List.map_append,List.map_cons,List.map_nil];exact HF.out.pick [1] [] (by decide) (by simp) (by simp)),hid ⟨h1,h2,h3,h4,h5⟩⟩
   case measure=>rw [HG.out];exact Tr.meas_lt (show l1.length<lc.length by have:=HL0.out;omega)
theorem fields_any(en:Int)(n:Nat)(r:Tr.Rc)(hC:Fr.CR en n r):Fr.CV 187 en n (Tr.fieldsP en r) Fr.VFds:=by
 intro w B bp l hl hp
 obtain⟨X,hX⟩:∃ X,X=Tr.fieldsP en r l:=⟨_,rfl⟩
 rw [show Tr.fieldsP en r l=X from hX.symm]
 unfold Tr.fieldsP at hX
 have HX:=hid hX
 have HB:RowKit.Hid (B≤w.heap.size):=hp.size
 have HF:=hid (pf_start hp)
 have HL:=hid (show l.length+0≤l.length from Nat.le_refl _)
 have HN:=hid hl
 have HC:=hid hC
 clear hC
 have hfl0:=fld_tok0
 have hfl1:=fld_tok1
 have hfl3:=fld_tok3
 clear hX hp hl
 go_enter Tryz.func187,Tryz.ntmps187
 go_wp2_with (first
  | (go_at_call 97;(with_reducible refine(Fr.peek_split _ B bp en _ HF.out.kp).mono ?_);rintro e W1 ⟨hb,kd,t2,n2,q2,hpk,hq,rfl,⟨hn,rfl⟩|⟨hn,h1,h2⟩⟩;(focus(have HX1:=HX.out;(try simp only [hq,hn,↓reduceIte,Bool.false_eq_true,bind_ok,Fr.bind_no]at HX1);replace HX:=hid HX1;clear HX1;replace HF:=hid (HF.out.below hb);clear hb hpk));rotate_left;(focus(have HX1:=HX.out;(try simp only [hq,hn,↓reduceIte,Bool.false_eq_true,bind_ok,Fr.bind_no]at HX1);replace HX:=hid HX1;clear HX1;replace HF:=hid (HF.out.below hb);clear hb hpk));rotate_left))
 ·obtain⟨Y,hY⟩:∃ Y,Y=Tr.manyC Tr.comma (Tr.defT en true) (l.length+1) l:=⟨_,rfl⟩
  have HX1:=HX.out
  rw [← hY]at HX1
  replace HX:=hid HX1
  clear HX1
  rw [Tr.loopx_start]at hY
  have hlen:=HF.out.kp.len
  have HY:=hid (show Y=LoopX Tr.comma (Tr.defT en true) [] true l l.length∧l.length≤l.length∧l.length+0≤l.length∧([]:List (Tr.Tok × Bool)).length+l.length≤6000∧(true=true∨([]:List (Tr.Tok × Bool)) ≠ [])from⟨hY,Nat.le_refl _,HL.out,by simpa using hlen,.inl rfl⟩)
  clear hY
  try simp only [Act.put,zA,z0,z1]
  go_loopg [3,4] (Tr.meas true l) (fun g v3 v4 wr=>∃(acc:List (Tr.Tok × Bool)) (more:Bool) (lc:List Tr.Tok) (fu:Nat),g=Tr.meas more lc∧v4=.bool more∧RowKit.Hid (Fr.PF w B bp en lc wr [.row v3 129 13 (acc.map Fr.fiZ)] [])∧RowKit.Hid (Y=LoopX Tr.comma (Tr.defT en true) acc more lc fu∧lc.length≤fu∧lc.length+0≤l.length∧acc.length+lc.length≤6000∧(more=true∨acc ≠ [])))
  case atStart=>exact⟨[],true,l,l.length,rfl,rfl,hid (HF.out.own 129 13),HY⟩
  case round =>
   clear HF HY HL
   obtain⟨acc,more,lc,fu,hg,hm,HF,HY⟩:=hrel
   subst hm
   cases more with
   | false =>
    have HX1:=HX.out
    rw [HY.out.1,Tr.loopx_end,bind_ok]at HX1
    replace HX:=hid HX1
    have hac:acc ≠ []:=by have:=HY.out.2.2.2.2;simpa using this
    have HL:=hid HY.out.2.2.1
    have HAc:=hid HY.out.2.2.2.1
    obtain⟨bl,cap,rfl,hcap1,hcap2⟩:∃ b cap:Nat,u3=.slice (some ⟨b,0,none⟩) (acc.map Fr.fiZ).length cap∧(acc.map Fr.fiZ).length≤cap∧cap≤maxLen:=by
     rcases HF.out.rowForm (k:=0) rfl with⟨h,_⟩|h
     ·exact absurd (List.map_eq_nil_iff.1 h) hac
     ·exact h
    rw [List.length_map]at hcap1 HF ⊢
    have hal:acc.length≤6000:=by have:=HAc.out;omega
    have hai:(acc.length:Int)≤6000:=by omega
    clear HX1 hg HY
    go_wp2_with (first
     | (go_at_call 98;(with_reducible refine(skip_any _ B bp en _ _ HF.out.kp).mono ?_);rintro e W1 ⟨hr,⟨_,l1,v,hx,hps,rfl,rfl⟩|⟨q,hx,rfl⟩⟩;(focus((try simp only [hx,↓reduceIte,Fr.bB]at HX);replace HL:=hid (con_add (con_skip en _ _) hx HL.out);replace HF:=hid (Fr.PF.call HB.out HF.out hr hps);clear hr hps hx));rotate_left;(focus((try simp only [hx,↓reduceIte,Fr.bB]at HX);have HR:=hid (rd_trans HF.out.gr hr);clear hr hx));rotate_left)
     | (go_at_call 148;(with_reducible refine(HC.out.ty _ B bp _ (by have h1:=HL.out;have h2:=HN.out;(try have h3:=HM.out);omega) HF.out.kp).mono ?_);rintro e W1 ⟨hr,⟨ta,l1,v,hx,hps,rfl,hV⟩|⟨q,hx,rfl⟩⟩;(focus(obtain⟨k0,m0,n0,ls0,el0,ba0,fs0,ps0,rs0,p0,v3,v4,v5,v6,v7,v8,rfl,hD,hd0,hd1,hd2,hd3,hd4,hd5⟩:=Fr.VTy.open hV;(try simp only [hx,↓reduceIte,Fr.bB]at HX);replace HL:=hid (con_add (HC.out.ce.rg.ty _) hx HL.out);have HF2:=Fr.PF.call HB.out HF.out hr hps;replace HF2:=Fr.Fm.since HF.out HF2 hd5;replace HF2:=Fr.Fm.since HF.out HF2 hd4;replace HF2:=Fr.Fm.since HF.out HF2 hd3;replace HF2:=Fr.Fm.since HF.out HF2 hd2;replace HF2:=Fr.Fm.since HF.out HF2 hd1;replace HF2:=Fr.Fm.since HF.out HF2 hd0;replace HF:=hid HF2;clear HF2 hr hps hx hd0 hd1 hd2 hd3 hd4 hd5));rotate_left;(focus((try simp only [hx,↓reduceIte,Fr.bB]at HX);have HR:=hid (rd_trans HF.out.gr hr);clear hr hx));rotate_left)
     | ((with_reducible refine is_alloc ?_);(first|(refine wl_alloc HF.out tyT ?_));intro b W1 HF1;replace HF:=hid HF1;clear HF1)
     | (first|((with_reducible refine is_store (T:=123) ?_);(first|(refine wl_store 0 HF.out tyT rfl rfl rfl rfl rfl (z4 rfl) oT ?_));intro W1 HF1;simp only [setL,z0,z1]at HF1;replace HF:=hid HF1;clear HF1)))
    all_goals first|(exact⟨rfl,HR.out,.inr ⟨_,HX.out,rfl⟩⟩)|skip
    replace HF:=hid (show Fr.PF w B bp en _ W1 [.row (.slice (some ⟨bl,0,none⟩) acc.length cap) 129 13 (Fr.rowsA Fr.fiZ (Fr.fiF ta) acc 0),.blk b [.int .i64 k0,.string ⟨m0.toArray⟩,.string ⟨n0.toArray⟩,v3,v4,v5,v6,v7,v8,.int .i64 p0]] [(v3,.list 6 (exDs ls0)),(v4,.list 10 (tyDs el0)),(v5,.list 10 (tyDs ba0)),(v6,.list 13 (fdDs fs0)),(v7,.list 13 (fdDs ps0)),(v8,.list 10 (tyDs rs0))]from by rw [Fr.rowsA_zero];exact HF.out.pick [1,0] [0,1,2,3,4,5] (by decide) (by simp) (by simp))
    have HD:=hid hD
    clear hD hV
    go_loopg [8,36] acc.length (fun g _ v36 wr2=>∃ i:Nat,i≤acc.length∧g=acc.length - i∧v36=.int .i64 i∧RowKit.Hid (Fr.PF w B bp en l1 wr2 [.row (.slice (some ⟨bl,0,none⟩) acc.length cap) 129 13 (Fr.rowsA Fr.fiZ (Fr.fiF ta) acc i),.blk b [.int .i64 k0,.string ⟨m0.toArray⟩,.string ⟨n0.toArray⟩,v3,v4,v5,v6,v7,v8,.int .i64 p0]] [(v3,.list 6 (exDs ls0)),(v4,.list 10 (tyDs el0)),(v5,.list 10 (tyDs ba0)),(v6,.list 13 (fdDs fs0)),(v7,.list 13 (fdDs ps0)),(v8,.list 10 (tyDs rs0))]))
    case atStart=>exact⟨0,Nat.zero_le _,rfl,rfl,HF⟩
    case round =>
     clear HF
     obtain⟨i,hi,hg,rfl,HF⟩:=hrel
     have HG:=hid hg
     clear hg
     by_cases hlt:i<acc.length
     ·have hii:(i:Int)<(acc.length:Int):=by omega
      have HR:=hid (Fr.rowsA_at Fr.fiZ (Fr.fiF ta) acc i hlt)
      go_wp2_with (first
       | (first|((with_reducible refine is_load (T:=123) ?_);(first|(refine Fr.wl_load 1 HF.out rfl rfl Tryz.underlying123 rfl tyT rfl ?_))))
       | ((with_reducible refine is_store ?_);(refine wpList_plain rfl (fun K hK=>?_));(refine Fr.ow_storeRow 0 HF.out tyT rfl rfl rfl (i) 2 (by first|rfl|simp|omega) (HR.out) (by simp [Tr.tyD_len]) rfl rfl rfl (nd:=tyD ta) ?_ ?_);(focus(rw [HD.out];(repeat' (first|exact Da.row_nil _ _|exact Da.Is.int _|exact Da.Is.str _|(refine HF.out.isM ?_;simp;done)|refine Da.row_cons ?_ ?_))));intro W1 HF1;refine hK _ _ ?_;clear hK K;simp only [z0,z1]at HF1;replace HF:=hid HF1;clear HF1))
      replace HF:=hid (show Fr.PF w B bp en l1 W1 [.row (.slice (some ⟨bl,0,none⟩) acc.length cap) 129 13 (Fr.rowsA Fr.fiZ (Fr.fiF ta) acc (i+1)),.blk b [.int .i64 k0,.string ⟨m0.toArray⟩,.string ⟨n0.toArray⟩,v3,v4,v5,v6,v7,v8,.int .i64 p0]] [(v3,.list 6 (exDs ls0)),(v4,.list 10 (tyDs el0)),(v5,.list 10 (tyDs ba0)),(v6,.list 13 (fdDs fs0)),(v7,.list 13 (fdDs ps0)),(v8,.list 10 (tyDs rs0))]from by
       have h1:=HF.out
       rw [Fr.fiZ_set HD.out,Fr.rowsA_set _ _ _ _ hlt]at h1
       exact h1)
      go_roundg (acc.length - (i+1))
      case rel=>exact⟨i+1,hlt,rfl,rfl,HF⟩
      case measure=>rw [HG.out];omega
     ·obtain rfl:i=acc.length:=by omega
      go_wp2
      go_ret
      have HV:=HF.out.close (k:=0) rfl
      rw [Fr.rowsA_end]at HV
      exact⟨Fr.PF.rd HF.out,.inl ⟨_,_,_,HX.out,Fr.PF.ps HF.out,rfl,by
       have:=HV.out 0 rfl
       show Da.Is wr (fun b=>w.heap.size≤b) _ (.list 13 (fdDs _))
       rw [Tr.fdDs_map,List.map_map]
       exact this⟩⟩
   | true =>
    have HG:=hid hg
    clear hg
    have HM:=hid (HY.out.2.2.1)
    have HL:=hid (show lc.length+0≤lc.length from Nat.le_refl _)
    obtain⟨Z,hZ⟩:∃ Z,Z=Tr.defT en true lc:=⟨_,rfl⟩
    have HZ:=hid hZ
    have HO:=HX
    replace HX:=hid hZ
    have HAc:=hid HY.out.2.2.2.1
    clear hZ
    go_wp2_with (first
     | (go_at_call 146;(with_reducible refine(def_any _ B bp en _ true HF.out.kp).mono ?_);rintro e W1 ⟨hr,⟨t,l1,v,hx,hps,rfl,hv⟩|⟨q,hx,rfl⟩⟩;(focus(obtain⟨⟨kd,t2,n2,q2⟩,ex⟩:=t;obtain rfl:v=.tuple #[.agg #[.int .i64 kd,.string ⟨t2.toArray⟩,.int .i64 n2,.int .i64 q2],.bool ex]:=hv;(try simp only [hx,↓reduceIte,Fr.bB]at HX);replace HL:=hid (con_add (Tr.con_def en _ _) hx HL.out);replace HF:=hid (Fr.PF.call HB.out HF.out hr hps);clear hr hps hx));rotate_left;(focus((try simp only [hx,↓reduceIte,Fr.bB]at HX);have HR:=hid (rd_trans HF.out.gr hr);clear hr hx));rotate_left)
     | ((with_reducible refine is_alloc ?_);(first|(refine wl_alloc HF.out tyTok ?_));intro b W1 HF1;replace HF:=hid HF1;clear HF1)
     | (first|((with_reducible refine is_store (T:=40) ?_);(first|(refine wl_store 0 HF.out tyTok rfl rfl rfl rfl rfl (z4 rfl) oT ?_));intro W1 HF1;simp only [setL,z0,z1]at HF1;replace HF:=hid HF1;clear HF1))
     | (first|((with_reducible refine is_load (T:=9) ?_);(first|(refine wl_load1 0 HF.out rfl rfl Tryz.underlying9 rfl rfl ?_)))|((with_reducible refine is_load (T:=3) ?_);(first|(refine wl_load1 0 HF.out rfl rfl Tryz.underlying3 rfl rfl ?_))))
     | ((with_reducible refine is_lit ?_);(refine wl_lit1 HF.out Tryz.underlying121 Fr.tyF (by simp) (by simp) rfl rfl rfl (Fr.fiZ ((kd,t2,n2,q2),ex)) ?_ ?_);(focus(simp only [Fr.fiZ,Fr.paZ];(repeat' (first|exact Da.row_nil _ _|exact Da.Is.int _|exact Da.Is.str _|exact Da.Is.bool _|exact is_nil _|refine Da.row_cons ?_ ?_))));intro b W1 HF1;replace HF:=hid HF1;clear HF1)
     | ((with_reducible refine Fr.is_append ?_);(refine Fr.wl_append 1 0 HF.out Tryz.underlying121 Fr.tyF (by simp) (by simp) rfl rfl rfl rfl rfl ?_ ?_);(focus(have:=HAc.out;simp;omega));intro v1 W1 HF1;simp only [setL,z0,z1]at HF1;replace HF:=hid HF1;clear HF1)
     | (go_at_call 100;(with_reducible refine(took_any _ B bp en _ [44] HF.out.kp).mono ?_);rintro e W1 ⟨rfl,hr,hps⟩;have HL0:=HL;replace HL:=hid (Fr.took_add [44] HL.out);replace HF:=hid (Fr.PF.call HB.out HF.out hr hps);clear hr hps))
    all_goals first|(exact⟨rfl,HR.out,.inr ⟨_,Fr.loop_no HO.out HY.out.1 (HZ.out ▸ HX.out),rfl⟩⟩)|skip
    obtain⟨fu',h1,h2,h3,h4,h5⟩:=Fr.loop_ok (w:=Tr.comma) HY.out (HZ.out.symm.trans HX.out) (show l1.length<lc.length by have:=HL0.out;omega)
    go_roundg (Tr.meas (Tr.isS [44] l1) (Tr.took [44] l1).2)
    case rel=>exact⟨_,_,_,fu',rfl,rfl,hid (by rw [List.map_append,List.map_cons,List.map_nil];exact HF.out.pick [1] [] (by decide) (by simp) (by simp)),hid ⟨h1,h2,h3,h4,h5⟩⟩
    case measure=>rw [HG.out];exact Tr.meas_lt (show l1.length<lc.length by have:=HL0.out;omega)
 ·go_ret
  exact⟨Fr.PF.rd HF.out,.inl ⟨_,_,_,HX.out,Fr.PF.ps HF.out,rfl,is_nil _⟩⟩
theorem qual_any(en:Int):Fr.CQ en:=by
 intro n
 intro w B bp l hl hp
 obtain⟨X,hX⟩:∃ X,X=Tr.qualP en l:=⟨_,rfl⟩
 rw [show Tr.qualP en l=X from hX.symm]
 unfold Tr.qualP at hX
 have HX:=hid hX
 have HB:RowKit.Hid (B≤w.heap.size):=hp.size
 have HF:=hid (pf_start hp)
 have HL:=hid (show l.length+0≤l.length from Nat.le_refl _)
 have HN:=hid hl
 have hfl0:=fld_tok0
 have hfl1:=fld_tok1
 have hfl3:=fld_tok3
 clear hX hp hl
 go_enter Tryz.func186,Tryz.ntmps186
 go_wp2_with (first
  | ((with_reducible refine is_alloc (dst:=some 2) ?_);(first|(refine wl_alloc HF.out tyT ?_));intro b2 W1 HF1;replace HF:=hid HF1;clear HF1)
  | ((with_reducible refine is_alloc (dst:=some 3) ?_);(first|(refine wl_alloc HF.out tyTok ?_));intro b3 W1 HF1;replace HF:=hid HF1;clear HF1)
  | ((with_reducible refine is_alloc (dst:=some 4) ?_);(first|(refine wl_alloc HF.out tyT ?_));intro b4 W1 HF1;replace HF:=hid HF1;clear HF1)
  | (first|((with_reducible refine is_store (T:=123) ?_);(first|(refine wl_store 0 HF.out tyT rfl rfl rfl rfl rfl (z4 rfl) oT ?_)|(refine wl_store 2 HF.out tyT rfl rfl rfl rfl rfl (z4 rfl) oT ?_));intro W1 HF1;simp only [setL,z0,z1]at HF1;replace HF:=hid HF1;clear HF1)|((with_reducible refine is_store (T:=40) ?_);((refine wl_store 0 HF.out tyTok rfl rfl rfl rfl rfl (z4 rfl) oT ?_));intro W1 HF1;simp only [setL,z0,z1]at HF1;replace HF:=hid HF1;clear HF1))
  | (first|((with_reducible refine is_load (T:=123) ?_);((refine Fr.wl_load 0 HF.out rfl rfl Tryz.underlying123 rfl tyT rfl ?_)))|((with_reducible refine is_load (T:=9) ?_);((refine wl_load1 0 HF.out rfl rfl Tryz.underlying9 rfl rfl ?_)))|((with_reducible refine is_load (T:=3) ?_);((refine wl_load1 0 HF.out rfl rfl Tryz.underlying3 rfl rfl ?_))))
  | (go_at_call 99;(with_reducible refine(name_any _ B bp en _ HF.out.kp).mono ?_);rintro e W1 ⟨hr,⟨t,l1,v,hx,hps,rfl,hv⟩|⟨q,hx,rfl⟩⟩;(focus(obtain⟨kd,t2,n2,q2⟩:=t;obtain rfl:v=.agg #[.int .i64 kd,.string ⟨t2.toArray⟩,.int .i64 n2,.int .i64 q2]:=hv;(try simp only [hx,↓reduceIte,Fr.bB]at HX);replace HL:=hid (con_add (Tr.con_name en _) hx HL.out);replace HF:=hid (Fr.PF.call HB.out HF.out hr hps);clear hr hps hx));rotate_left;(focus((try simp only [hx,↓reduceIte,Fr.bB]at HX);have HR:=hid (rd_trans HF.out.gr hr);clear hr hx));rotate_left)
  | (go_at_call 100;(with_reducible refine(Fr.took_split _ B bp en _ _ HF.out.kp).mono ?_);rintro e W1 ⟨hr,⟨hs,rfl,hps⟩|⟨hs,rfl,hps⟩⟩;(focus((try simp only [hs,↓reduceIte,Fr.bB]at HX);replace HF:=hid (Fr.PF.call HB.out HF.out hr hps);replace HL:=hid (Fr.tail_add hs HL.out);clear hr hps hs));rotate_left;(focus((try simp only [hs,↓reduceIte,Fr.bB]at HX);replace HF:=hid (Fr.PF.call HB.out HF.out hr hps);clear hr hps hs));rotate_left))
 all_goals first|(exact⟨rfl,HR.out,.inr ⟨_,HX.out,rfl⟩⟩)|skip
 ·replace HF:=hid HF.out.drew
  refine wp_region_G (UpTo 8 (fun X=>b4<X.heap.size∧X.cell? ⟨b4,2,none⟩=some (.string ⟨t2.toArray⟩))) 9 (by kernel_rfl) (by kernel_rfl) (fun _=>⟨HF.out.ltAt 0 rfl,HF.out.cellAt 0 rfl 2 rfl⟩) (fun _ hS=>?_)
  generalize World.drew _=W1 at HF hS ⊢
  refine tkM (n:=9) (is:=[0]) (k:=1) rfl (by kernel_rfl) hS ?_
  repeat(refine wT (v:=?_) rfl (by rfl) (fun X xb=>?_) ?_;rotate_left 1;(focus(go_simp;try with_reducible rfl));try simp only [Act.put,zA,z0,z1])
  refine wE fun hS=>?_
  refine Fr.tkB (n:=9) (is:=[1]) [[1]] (k:=1) rfl (by kernel_rfl) hS ?_
  repeat(refine wT (v:=?_) rfl (by rfl) (fun X xb=>?_) ?_;rotate_left 1;(focus(go_simp;try with_reducible rfl));try simp only [Act.put,zA,z0,z1])
  refine wE fun hS=>?_
  refine tkM (n:=9) (is:=[2,5]) (k:=2) rfl (by kernel_rfl) hS ?_
  repeat(refine wT (v:=?_) rfl (by rfl) (fun X xb=>?_) ?_;rotate_left 1;(focus(go_simp;try with_reducible rfl));try simp only [Act.put,zA,z0,z1])
  refine wE fun hS=>?_
  refine rd1 (i:=3) (by kernel_rfl) (.cons rfl (fun K hK=>?_) .nil)
  go_simp
  (go_at_call 99;(with_reducible refine(name_any _ B bp en _ HF.out.kp).mono ?_);rintro e W1 ⟨hr,⟨t,l1,v,hx,hps,rfl,hv⟩|⟨q,hx,rfl⟩⟩;(focus(obtain⟨kd3,t3,n3,q3⟩:=t;obtain rfl:v=.agg #[.int .i64 kd3,.string ⟨t3.toArray⟩,.int .i64 n3,.int .i64 q3]:=hv;(try simp only [hx,↓reduceIte,Fr.bB]at HX);replace HL:=hid (con_add (Tr.con_name en _) hx HL.out);replace HF:=hid (Fr.PF.call HB.out HF.out hr hps);clear hr hps hx));rotate_left;(focus((try simp only [hx,↓reduceIte,Fr.bB]at HX);have HR:=hid (rd_trans HF.out.gr hr);clear hr hx));rotate_left)
  rotate_left
  ·go_simp
   exact⟨rfl,HR.out,.inr ⟨_,HX.out,rfl⟩⟩
  go_simp
  refine hK.out _ _ (fun _=>⟨HF.out.ltAt 0 rfl,HF.out.cellAt 0 rfl 2 rfl⟩) fun hS=>?_;clear hK K
  try simp only [Act.put,zA,z0,z1]
  refine tkM (n:=9) (is:=[4]) (k:=1) rfl (by kernel_rfl) hS ?_
  repeat(refine wT (v:=?_) rfl (by rfl) (fun X xb=>?_) ?_;rotate_left 1;(focus(go_simp;try with_reducible rfl));try simp only [Act.put,zA,z0,z1])
  refine wE fun hS=>?_
  refine rd1 (i:=6) (by kernel_rfl) (.cons rfl (fun K hK=>?_) .nil)
  refine(if_pos (by rfl)).mpr ?_
  (first|((refine Fr.ow_store1 0 HF.out Fr.tyStr rfl rfl rfl rfl rfl rfl ?_ ?_);(focus(rfl))))
  intro W1 HF1
  simp only [setL,z0,z1]at HF1;replace HF:=hid HF1;clear HF1
  refine hK.out _ _ (fun _=>⟨HF.out.ltAt 0 rfl,HF.out.cellAt 0 rfl 2 rfl⟩) fun hS=>?_;clear hK K
  try simp only [Act.put,zA,z0,z1]
  refine tkM (n:=9) (is:=[7]) (k:=1) rfl (by kernel_rfl) hS ?_
  repeat(refine wT (v:=?_) rfl (by rfl) (fun X xb=>?_) ?_;rotate_left 1;(focus(go_simp;try with_reducible rfl));try simp only [Act.put,zA,z0,z1])
  refine wE fun hS=>?_
  refine rd1 (i:=8) (by kernel_rfl) (.cons rfl (fun K hK=>?_) .nil)
  refine(if_pos (by rfl)).mpr ?_
  (first|((refine Fr.ow_store1 0 HF.out Fr.tyStr rfl rfl rfl rfl rfl rfl ?_ ?_);(focus(rfl))))
  intro W1 HF1
  simp only [setL,z0,z1]at HF1;replace HF:=hid HF1;clear HF1
  refine hK.out _ _ (fun h=>absurd h (by simp [Fr.setAll])) fun hS=>?_;clear hK K
  try simp only [Act.put,zA,z0,z1]
  refine wpAnyG_done (by kernel_rfl) ?_ _
  clear hS
  go_wp2_with (first|(((with_reducible refine is_store (T:=123) ?_);((refine wl_store 2 HF.out tyT rfl rfl rfl rfl rfl (z4 rfl) oT ?_));intro W1 HF1;simp only [setL,z0,z1]at HF1;replace HF:=hid HF1;clear HF1))|(((with_reducible refine is_load (T:=123) ?_);((refine Fr.wl_load 0 HF.out rfl rfl Tryz.underlying123 rfl tyT rfl ?_)))))
  refine bodyPost_ret (Fr.fm_results 2 HF.out Tryz.results186 rfl rfl Tryz.underlying123 rfl tyT rfl) rfl ?_
  refine⟨Fr.PF.rd HF.out,.inl ⟨_,_,_,HX.out,Fr.PF.ps HF.out,rfl,_,rfl,?_⟩⟩
  simp only [tyD,exDs,tyDs,fdDs]
  (repeat' (first|exact Da.row_nil _ _|exact Da.Is.int _|exact Da.Is.str _|exact is_nil _|refine Da.row_cons ?_ ?_))
 ·refine bodyPost_ret (Fr.fm_results 2 HF.out Tryz.results186 rfl rfl Tryz.underlying123 rfl tyT rfl) rfl ?_
  refine⟨Fr.PF.rd HF.out,.inl ⟨_,_,_,HX.out,Fr.PF.ps HF.out,rfl,_,rfl,?_⟩⟩
  simp only [tyD,exDs,tyDs,fdDs]
  (repeat' (first|exact Da.row_nil _ _|exact Da.Is.int _|exact Da.Is.str _|exact is_nil _|refine Da.row_cons ?_ ?_))
namespace Fr
open Da Tr
theorem cnt_many{α:Type}{w:List UInt8}{F:List Tok→Tr.R α}(hF:∀ l,Con l (F l)):∀(n:Nat) (l:List Tok) (ts:List α) (l1:List Tok),manyC w F n l=.ok ts l1→ts.length+l1.length≤l.length
 | 0,l,ts,l1,h=>by simp [manyC]at h
 | n+1,l,ts,l1,h=>by
  unfold manyC at h
  cases hE:F l with
  | no q=>rw [hE]at h;cases h
  | ok a l2 =>
   rw [hE,bind_ok]at h
   obtain⟨x,t,e⟩:=hF l a l2 hE
   have h2:l.length=t.length+l2.length+1:=by rw [e];simp
   by_cases hs:isS w l2=true
   ·rw [if_pos hs]at h
    have h3:=tail_lt (tl_ne hs)
    cases hM:manyC w F n l2.tail with
    | no q=>rw [hM]at h;cases h
    | ok as' l3 =>
     rw [hM,bind_ok]at h
     cases h
     have:=cnt_many hF n l2.tail as' l1 hM
     simp;omega
   ·rw [if_neg hs]at h
    cases h
    simp;omega
theorem cnt_section{en:Int}{r:Rc}(hr:Rg r)(l:List Tok)(ps:List (List UInt8 × Bool × Ty × Int))(l1:List Tok)(h:sectionP en r l=.ok ps l1):ps.length+l1.length≤l.length:=by
 unfold sectionP at h
 simp only at h
 cases h1:manyC comma (nameT en) (l.length+1) (took [86,65,82] l).2 with
 | no q=>rw [h1]at h;cases h
 | ok ts l2 =>
  rw [h1,bind_ok]at h
  have c1:=cnt_many (con_name en) _ _ _ _ h1
  have c0:=took_len [86,65,82] l
  cases h2:skip en [58] l2 with
  | no q=>rw [h2]at h;cases h
  | ok u l3 =>
   rw [h2,bind_ok]at h
   obtain⟨x,t,e⟩:=con_skip en _ _ _ _ h2
   cases h3:openP en r l3 with
   | no q=>rw [h3]at h;cases h
   | ok t l4 =>
    rw [h3,bind_ok]at h
    obtain⟨x',t',e'⟩:=con_open en hr _ _ _ h3
    cases h
    have e1:l2.length=_:=congrArg List.length e
    have e2:l3.length=_:=congrArg List.length e'
    simp at e1 e2 ⊢
    omega
theorem cnt_fields{en:Int}{r:Rc}(hr:Rg r)(l:List Tok)(ps:List (List UInt8 × Bool × Ty × Int))(l1:List Tok)(h:fieldsP en r l=.ok ps l1):ps.length+l1.length≤l.length:=by
 unfold fieldsP at h
 by_cases hn:isN l=true
 ·rw [if_pos hn]at h
  cases h1:manyC comma (defT en true) (l.length+1) l with
  | no q=>rw [h1]at h;cases h
  | ok ts l2 =>
   rw [h1,bind_ok]at h
   have c1:=cnt_many (con_def en true) _ _ _ _ h1
   cases h2:skip en [58] l2 with
   | no q=>rw [h2]at h;cases h
   | ok u l3 =>
    rw [h2,bind_ok]at h
    obtain⟨x,t,e⟩:=con_skip en _ _ _ _ h2
    cases h3:r.ty l3 with
    | no q=>rw [h3]at h;cases h
    | ok t l4 =>
     rw [h3,bind_ok]at h
     obtain⟨x',t',e'⟩:=hr.ty _ _ _ h3
     cases h
     have e1:l2.length=_:=congrArg List.length e
     have e2:l3.length=_:=congrArg List.length e'
     simp at e1 e2 ⊢
     omega
 ·rw [if_neg hn]at h
  cases h;simp
theorem fdDs_app(xs ys:List (List UInt8 × Bool × Ty × Int)):fdDs xs++fdDs ys=fdDs (xs++ys):=by rw [fdDs_map,fdDs_map,fdDs_map,List.map_append]
theorem fdDs_len(xs:List (List UInt8 × Bool × Ty × Int)):(fdDs xs).length=xs.length:=by rw [fdDs_map,List.length_map]
theorem loop_okf{β:Type}{w:List UInt8}{F:List Tok→Tr.R (List β)}{acc:List (List β)}{lc l1:List Tok}{fu c0 N0:Nat}{a:List β}{Y:Tr.R (List (List β))}{E:Prop}(hY:Y=LoopX w F acc true lc fu∧lc.length≤fu∧lc.length+c0≤N0∧acc.flatten.length+lc.length≤6000∧E)(h:F lc=.ok a l1)(hs:l1.length<lc.length)(ha:a.length+l1.length≤lc.length) :
  ∃ fu',Y=LoopX w F (acc++[a]) (isS w l1) (took w l1).2 fu'∧(took w l1).2.length≤fu'∧(took w l1).2.length+c0≤N0∧(acc++[a]).flatten.length+(took w l1).2.length≤6000∧(isS w l1=true∨acc++[a] ≠ []):=by
 obtain⟨h1,h2,h3,h4,_⟩:=hY
 obtain⟨fu',h5,h6⟩:=loopx_ok (w:=w) (acc:=acc) h h2 hs
 have h7:=took_len w l1
 refine⟨fu',h1.trans h5,h6,by omega,?_,.inr (by simp)⟩
 rw [List.flatten_append,List.length_append]
 simp only [List.flatten_cons,List.flatten_nil,List.append_nil]
 omega
def VFm(lo:Nat)(w:World)(v:Value)(f:List (List UInt8 × Bool × Ty × Int) × List Ty):Prop:=∃ a b,v=.tuple #[a,b]∧VFds lo w a f.1∧VTys lo w b f.2
end Fr
theorem formals_any(en:Int)(n:Nat)(r:Tr.Rc)(hC:Fr.CR en n r)(hQ:Fr.CQ en):Fr.CV 149 en n (Tr.formalsP en r) Fr.VFm:=by
 intro w B bp l hl hp
 obtain⟨X,hX⟩:∃ X,X=Tr.formalsP en r l:=⟨_,rfl⟩
 rw [show Tr.formalsP en r l=X from hX.symm]
 unfold Tr.formalsP at hX
 have HX:=hid hX
 have HB:RowKit.Hid (B≤w.heap.size):=hp.size
 have HF:=hid (pf_start hp)
 have HL:=hid (show l.length+0≤l.length from Nat.le_refl _)
 have HN:=hid hl
 have HC:=hid hC
 have HQ:=hid hQ
 clear hC hQ
 have hfl0:=fld_tok0
 have hfl1:=fld_tok1
 have hfl3:=fld_tok3
 clear hX hp hl
 replace HF:=hid (HF.out.own 128 13)
 go_enter Tryz.func149,Tryz.ntmps149
 go_wp2_with (first
  | (go_at_call 98;(with_reducible refine(skip_any _ B bp en _ _ HF.out.kp).mono ?_);rintro e W1 ⟨hr,⟨_,l1,v,hx,hps,rfl,rfl⟩|⟨q,hx,rfl⟩⟩;(focus((try simp only [hx,↓reduceIte,Fr.bB]at HX);replace HL:=hid (con_add (con_skip en _ _) hx HL.out);replace HF:=hid (Fr.PF.call HB.out HF.out hr hps);clear hr hps hx));rotate_left;(focus((try simp only [hx,↓reduceIte,Fr.bB]at HX);have HR:=hid (rd_trans HF.out.gr hr);clear hr hx));rotate_left)
  | (go_at_call 102;(with_reducible refine(Fr.is_split _ B bp en _ _ HF.out.kp).mono ?_);rintro e W1 ⟨hb,⟨hs,rfl⟩|⟨hs,rfl⟩⟩;(focus((try simp only [hs,↓reduceIte,Fr.bB]at HX);replace HF:=hid (HF.out.below hb);clear hb hs));rotate_left;(focus((try simp only [hs,↓reduceIte,Fr.bB]at HX);replace HF:=hid (HF.out.below hb);clear hb hs));rotate_left))
 all_goals first|(exact⟨rfl,HR.out,.inr ⟨_,HX.out,rfl⟩⟩)|skip
 ·trace "A"
  go_wp2_with (first|(go_at_call 100;(with_reducible refine(Fr.took_split _ B bp en _ _ HF.out.kp).mono ?_);rintro e W1 ⟨hr,⟨hs,rfl,hps⟩|⟨hs,rfl,hps⟩⟩;(focus((try simp only [hs,↓reduceIte,Fr.bB]at HX);replace HF:=hid (Fr.PF.call HB.out HF.out hr hps);replace HL:=hid (Fr.tail_add hs HL.out);clear hr hps hs));rotate_left;(focus((try simp only [hs,↓reduceIte,Fr.bB]at HX);replace HF:=hid (Fr.PF.call HB.out HF.out hr hps);clear hr hps hs));rotate_left)|(go_at_call 186;(with_reducible refine(HQ.out n _ B bp _ (by have h1:=HL.out;have h2:=HN.out;(try have h3:=HM.out);omega) HF.out.kp).mono ?_);rintro e W1 ⟨hr,⟨ta,l1,v,hx,hps,rfl,hV⟩|⟨q,hx,rfl⟩⟩;(focus(obtain⟨k0,m0,n0,ls0,el0,ba0,fs0,ps0,rs0,p0,v3,v4,v5,v6,v7,v8,rfl,hD,hd0,hd1,hd2,hd3,hd4,hd5⟩:=Fr.VTy.open hV;(try simp only [hx,↓reduceIte,Fr.bB]at HX);replace HL:=hid (con_add (Tr.con_qual en _) hx HL.out);have HF2:=Fr.PF.call HB.out HF.out hr hps;replace HF2:=Fr.Fm.since HF.out HF2 hd5;replace HF2:=Fr.Fm.since HF.out HF2 hd4;replace HF2:=Fr.Fm.since HF.out HF2 hd3;replace HF2:=Fr.Fm.since HF.out HF2 hd2;replace HF2:=Fr.Fm.since HF.out HF2 hd1;replace HF2:=Fr.Fm.since HF.out HF2 hd0;replace HF:=hid HF2;clear HF2 hr hps hx hd0 hd1 hd2 hd3 hd4 hd5));rotate_left;(focus((try simp only [hx,↓reduceIte,Fr.bB]at HX);have HR:=hid (rd_trans HF.out.gr hr);clear hr hx));rotate_left)|((with_reducible refine is_lit ?_);(refine wl_lit1 HF.out Tryz.underlying65 tyT (by simp) (by simp) rfl rfl rfl (tyD ta) ?_ ?_);(focus(rw [hD];(repeat' (first|exact Da.row_nil _ _|exact Da.Is.int _|exact Da.Is.str _|(refine HF.out.isM ?_;simp;done)|refine Da.row_cons ?_ ?_))));intro b W1 HF1;replace HF:=hid HF1;clear HF1))
  all_goals first|(exact⟨rfl,HR.out,.inr ⟨_,HX.out,rfl⟩⟩)|skip
  all_goals
   go_ret2
   have HV:=HF.out.close (k:=0) rfl
   refine⟨Fr.PF.rd HF.out,.inl ⟨_,_,_,HX.out,Fr.PF.ps HF.out,rfl,_,_,rfl,HV.out 0 rfl,?_⟩⟩
   first|exact is_nil _|(simp only [tyDs];exact HV.out 1 rfl)
 ·obtain⟨Y,hY⟩:∃ Y,Y=Tr.manyC [59] (Tr.sectionP en r) (l.length+1) l1:=⟨_,rfl⟩
  have HX1:=HX.out
  rw [← hY]at HX1
  replace HX:=hid HX1
  clear HX1
  rw [Tr.loopx_start]at hY
  have hlen:=HF.out.kp.len
  have hle:l1.length≤l.length:=by have:=HL.out;omega
  have HY:=hid (show Y=LoopX [59] (Tr.sectionP en r) [] true l1 l.length∧l1.length≤l.length∧l1.length+(0+1)≤l.length∧([]:List (List (List UInt8 × Bool × Tr.Ty × Int))).flatten.length+l1.length≤6000∧(true=true∨([]:List (List (List UInt8 × Bool × Tr.Ty × Int))) ≠ [])from⟨hY,hle,HL.out,by simpa using hlen,.inl rfl⟩)
  clear hY
  try simp only [Act.put,zA,z0,z1]
  go_loopg [2,4] (Tr.meas true l1) (fun g v2 v4 wr=>∃(acc:List (List (List UInt8 × Bool × Tr.Ty × Int))) (more:Bool) (lc:List Tr.Tok) (fu:Nat),g=Tr.meas more lc∧v4=.bool more∧RowKit.Hid (Fr.PF w B bp en lc wr [.row v2 128 13 (fdDs acc.flatten)] [])∧RowKit.Hid (Y=LoopX [59] (Tr.sectionP en r) acc more lc fu∧lc.length≤fu∧lc.length+(0+1)≤l.length∧acc.flatten.length+lc.length≤6000∧(more=true∨acc ≠ [])))
  case atStart=>exact⟨[],true,l1,l.length,rfl,rfl,HF,HY⟩
  case round =>
   clear HF HY HL
   obtain⟨acc,more,lc,fu,hg,hm,HF,HY⟩:=hrel
   subst hm
   cases more with
   | false =>
    have HX1:=HX.out
    rw [HY.out.1,Tr.loopx_end,bind_ok]at HX1
    replace HX:=hid HX1
    have HL:=hid HY.out.2.2.1
    clear HX1 hg HY
    go_wp2_with (first
     | (go_at_call 98;(with_reducible refine(skip_any _ B bp en _ _ HF.out.kp).mono ?_);rintro e W1 ⟨hr,⟨_,l1,v,hx,hps,rfl,rfl⟩|⟨q,hx,rfl⟩⟩;(focus((try simp only [hx,↓reduceIte,Fr.bB]at HX);replace HL:=hid (con_add (con_skip en _ _) hx HL.out);replace HF:=hid (Fr.PF.call HB.out HF.out hr hps);clear hr hps hx));rotate_left;(focus((try simp only [hx,↓reduceIte,Fr.bB]at HX);have HR:=hid (rd_trans HF.out.gr hr);clear hr hx));rotate_left)
     | (go_at_call 100;(with_reducible refine(Fr.took_split _ B bp en _ _ HF.out.kp).mono ?_);rintro e W1 ⟨hr,⟨hs,rfl,hps⟩|⟨hs,rfl,hps⟩⟩;(focus((try simp only [hs,↓reduceIte,Fr.bB]at HX);replace HF:=hid (Fr.PF.call HB.out HF.out hr hps);replace HL:=hid (Fr.tail_add hs HL.out);clear hr hps hs));rotate_left;(focus((try simp only [hs,↓reduceIte,Fr.bB]at HX);replace HF:=hid (Fr.PF.call HB.out HF.out hr hps);clear hr hps hs));rotate_left)
     | (go_at_call 186;(with_reducible refine(HQ.out n _ B bp _ (by have h1:=HL.out;have h2:=HN.out;(try have h3:=HM.out);omega) HF.out.kp).mono ?_);rintro e W1 ⟨hr,⟨ta,l1,v,hx,hps,rfl,hV⟩|⟨q,hx,rfl⟩⟩;(focus(obtain⟨k0,m0,n0,ls0,el0,ba0,fs0,ps0,rs0,p0,v3,v4,v5,v6,v7,v8,rfl,hD,hd0,hd1,hd2,hd3,hd4,hd5⟩:=Fr.VTy.open hV;(try simp only [hx,↓reduceIte,Fr.bB]at HX);replace HL:=hid (con_add (Tr.con_qual en _) hx HL.out);have HF2:=Fr.PF.call HB.out HF.out hr hps;replace HF2:=Fr.Fm.since HF.out HF2 hd5;replace HF2:=Fr.Fm.since HF.out HF2 hd4;replace HF2:=Fr.Fm.since HF.out HF2 hd3;replace HF2:=Fr.Fm.since HF.out HF2 hd2;replace HF2:=Fr.Fm.since HF.out HF2 hd1;replace HF2:=Fr.Fm.since HF.out HF2 hd0;replace HF:=hid HF2;clear HF2 hr hps hx hd0 hd1 hd2 hd3 hd4 hd5));rotate_left;(focus((try simp only [hx,↓reduceIte,Fr.bB]at HX);have HR:=hid (rd_trans HF.out.gr hr);clear hr hx));rotate_left)
     | ((with_reducible refine is_lit ?_);(refine wl_lit1 HF.out Tryz.underlying65 tyT (by simp) (by simp) rfl rfl rfl (tyD ta) ?_ ?_);(focus(rw [hD];(repeat' (first|exact Da.row_nil _ _|exact Da.Is.int _|exact Da.Is.str _|(refine HF.out.isM ?_;simp;done)|refine Da.row_cons ?_ ?_))));intro b W1 HF1;replace HF:=hid HF1;clear HF1))
    all_goals first|(exact⟨rfl,HR.out,.inr ⟨_,HX.out,rfl⟩⟩)|skip
    all_goals
     go_ret2
     have HV:=HF.out.close (k:=0) rfl
     refine⟨Fr.PF.rd HF.out,.inl ⟨_,_,_,HX.out,Fr.PF.ps HF.out,rfl,_,_,rfl,HV.out 0 rfl,?_⟩⟩
     first|exact is_nil _|(simp only [tyDs];exact HV.out 1 rfl)
   | true =>
    have HG:=hid hg
    clear hg
    have HM:=hid (HY.out.2.2.1)
    have HL:=hid (show lc.length+0≤lc.length from Nat.le_refl _)
    obtain⟨Z,hZ⟩:∃ Z,Z=Tr.sectionP en r lc:=⟨_,rfl⟩
    have HZ:=hid hZ
    have HO:=HX
    replace HX:=hid hZ
    have HAc:=hid HY.out.2.2.2.1
    clear hZ
    go_wp2_with (first
     | (go_at_call 188;(with_reducible refine(section_any en n r HC.out HQ.out _ B bp _ (by have h1:=HL.out;have h2:=HN.out;(try have h3:=HM.out);omega) HF.out.kp).mono ?_);rintro e W1 ⟨hr,⟨ta,l1,v,hx,hps,rfl,hV⟩|⟨q,hx,rfl⟩⟩;(focus(have hd0:=hV;(try simp only [hx,↓reduceIte,Fr.bB]at HX);replace HL:=hid (con_add (Tr.con_section en HC.out.ce.rg _) hx HL.out);have HF2:=Fr.PF.call HB.out HF.out hr hps;replace HF2:=Fr.Fm.since HF.out HF2 hd0;replace HF:=hid HF2;clear HF2 hr hps hx hd0));rotate_left;(focus((try simp only [hx,↓reduceIte,Fr.bB]at HX);have HR:=hid (rd_trans HF.out.gr hr);clear hr hx));rotate_left)
     | ((with_reducible refine Fr.is_append ?_);(refine Fr.wl_append 0 0 HF.out Tryz.underlying64 Fr.tyPa (by simp) (by simp) rfl rfl rfl rfl rfl ?_ ?_);(focus(have h1:=HAc.out;have h2:=Fr.cnt_section HC.out.ce.rg _ _ _ (HZ.out.symm.trans HX.out);rw [Fr.fdDs_len,Fr.fdDs_len];omega));intro v1 W1 HF1;simp only [setL,z0,z1]at HF1;replace HF:=hid HF1;clear HF1)
     | (go_at_call 100;(with_reducible refine(took_any _ B bp en _ [59] HF.out.kp).mono ?_);rintro e W1 ⟨rfl,hr,hps⟩;have HL0:=HL;replace HL:=hid (Fr.took_add [59] HL.out);replace HF:=hid (Fr.PF.call HB.out HF.out hr hps);clear hr hps))
    all_goals first|(exact⟨rfl,HR.out,.inr ⟨_,Fr.loop_no HO.out HY.out.1 (HZ.out ▸ HX.out),rfl⟩⟩)|skip
    obtain⟨fu',h1,h2,h3,h4,h5⟩:=Fr.loop_okf (w:=[59]) HY.out (HZ.out.symm.trans HX.out) (show l1.length<lc.length by have:=HL0.out;omega) (Fr.cnt_section HC.out.ce.rg _ _ _ (HZ.out.symm.trans HX.out))
    go_roundg (Tr.meas (Tr.isS [59] l1) (Tr.took [59] l1).2)
    case rel=>exact⟨_,_,_,fu',rfl,rfl,hid (by rw [List.flatten_append,List.flatten_cons,List.flatten_nil,List.append_nil,← Fr.fdDs_app];exact HF.out.pick [0] [] (by decide) (by simp) (by simp)),hid ⟨h1,h2,h3,h4,h5⟩⟩
    case measure=>rw [HG.out];exact Tr.meas_lt (show l1.length<lc.length by have:=HL0.out;omega)
end Go.Proofs.YtlhmkfcbldghfaaGreatDoor
