/- The walk of tree's parser's decls,its parts: the plain loop,the closure named. Conditions: the parser's block is as it is made. -/
import Derived.Test.YtlhmkfcbldghfaaGreatDoorTuEb
import Derived.Test.YtlhmkfcbldghfaaGreatDoorFmY
import Derived.Deep.CutRange
import Derived.Laws.EntriesVeiled
import Derived.Test.YtlhmkfcbldghfaaGreatDoorTuX
namespace Go.Proofs.YtlhmkfcbldghfaaGreatDoor
set_option linter.all false
open Go.Lib (hid)
set_option maxRecDepth 1000000
set_option maxHeartbeats 16000000
open Go.RowKit
open Fr (bind_ok con_add is_alloc is_load is_store setL tkB tkM tyT tyTok tyV wE wT wl_alloc wl_load1 wl_store)
open Tr (cnD con_skip fdDs rd_trans tyDs)
namespace Fr
open Da Tr
def WhX{α:Type}(F:List Tok→Tr.R α)(acc:List α)(l:List Tok)(fu:Nat):Tr.R (List α):=(whileN F (fu+1) l).bind fun r l2 => .ok (acc++r) l2
theorem whx_start{α:Type}(F:List Tok→Tr.R α)(l:List Tok)(n:Nat):whileN F (n+1) l=WhX F [] l n:=by
 unfold WhX
 cases whileN F (n+1) l <;> rfl
theorem whx_end{α:Type}{F:List Tok→Tr.R α}{acc:List α}{l:List Tok}{fu:Nat}(h:isN l=false):WhX F acc l fu=.ok acc l:=by
 unfold WhX whileN
 simp [h,R.bind]
theorem whx_no{α:Type}{F:List Tok→Tr.R α}{acc:List α}{l:List Tok}{fu:Nat}{q:Int}(h:isN l=true)(hF:F l=.no q):WhX F acc l fu=.no q:=by
 unfold WhX whileN
 simp [h,hF,R.bind]
theorem whx_ok{α:Type}{F:List Tok→Tr.R α}{acc:List α}{l l1:List Tok}{fu:Nat}{a:α}(h:isN l=true)(hF:F l=.ok a l1)(hf:l.length≤fu)(hs:l1.length<l.length) :
  ∃ f2,WhX F acc l fu=WhX F (acc++[a]) l1 f2∧l1.length≤f2:=by
 obtain⟨f2,rfl⟩:∃ f2,fu=f2+1:=⟨fu - 1,by omega⟩
 refine⟨f2,?_,by omega⟩
 unfold WhX
 conv=>lhs;unfold whileN
 simp only [h,if_true,hF,R.bind]
 cases whileN F (f2+1) l1 with
 | no q=>rfl
 | ok r l2=>simp
theorem wh_no{α β:Type}{F:List Tok→Tr.R α}{acc:List α}{lc:List Tok}{fu:Nat}{q:Int}{X:Tr.R β}{Y:Tr.R (List α)}{f:List α→List Tok→Tr.R β}(hX:X=Y.bind f)(hY:Y=WhX F acc lc fu)(hn:isN lc=true)(h:F lc=.no q):X=.no q:=by
 rw [hX,hY,whx_no hn h];rfl
theorem wh_ok{α:Type}{F:List Tok→Tr.R α}{acc:List α}{lc l1:List Tok}{fu N0:Nat}{a:α}{Y:Tr.R (List α)}(hY:Y=WhX F acc lc fu∧lc.length≤fu∧lc.length≤N0∧acc.length+lc.length≤6000)(hn:isN lc=true)(h:F lc=.ok a l1)(hs:l1.length<lc.length) :
  ∃ f2,Y=WhX F (acc++[a]) l1 f2∧l1.length≤f2∧l1.length≤N0∧(acc++[a]).length+l1.length≤6000:=by
 obtain⟨h1,h2,h3,h4⟩:=hY
 obtain⟨f2,h5,h6⟩:=whx_ok (acc:=acc) hn h h2 hs
 exact⟨f2,h1.trans h5,h6,by omega,by simp;omega⟩
end Fr
theorem named_fm(w W:World)(B bp b:Nat)(en:Int)(l:List Tr.Tok)(R:List Fr.RI)(Ds:List (Value × Da.D))(k:Nat)(hf:Fr.PF w B bp en l W R Ds)(hk:R[k]?=some (.blk b [.pointer (some ⟨bp,0,none⟩)])) :
  Calls Tryz.prog 145 #[.pointer (some ⟨b,0,none⟩)] W fun e W'=>Fr.PF w B bp en l W' R Ds∧((Tr.isN l=true∧e=.returned (.bool true))∨(Tr.isN l=false∧e=.returned (.bool false))):=by
 have HF:=hid hf
 have HK:=hid hk
 have hfl0:=Fr.fld_tok0
 obtain⟨X,hX⟩:∃ X:Bool,X=Tr.isN l:=⟨_,rfl⟩
 have HX:=hid hX
 clear hf hk hX
 go_enter Tryz.func145,Tryz.ntmps145
 go_wp2_with (first
  | ((with_reducible refine is_load ?_);(refine wl_load1 k HF.out rfl HK.out Tryz.underlying111 rfl rfl ?_))
  | (go_at_call 97;(with_reducible refine(Fr.peek_split _ B bp en _ HF.out.kp).mono ?_);rintro e W1 ⟨hb,kd,t2,n2,q2,hpk,hq,rfl,⟨hn,rfl⟩|⟨hn,h1,h2⟩⟩;(focus(have HX1:=HX.out;(try simp only [hq,hn,↓reduceIte,Bool.false_eq_true,bind_ok,Fr.bind_no]at HX1);replace HX:=hid HX1;clear HX1;replace HF:=hid (HF.out.below hb);clear hb hpk));rotate_left;(focus(have HX1:=HX.out;(try simp only [hq,hn,↓reduceIte,Bool.false_eq_true,bind_ok,Fr.bind_no]at HX1);replace HX:=hid HX1;clear HX1;replace HF:=hid (HF.out.below hb);clear hb hpk));rotate_left))
 ·go_ret
  exact⟨HF.out,.inl ⟨hn,rfl⟩⟩
 ·go_ret
  exact⟨HF.out,.inr ⟨hn,rfl⟩⟩
namespace Fr
open Da Tr
def decls3(en:Int)(r:Rc)(outer:Bool)(n0:Nat)(cs:List (List UInt8 × Bool × Ex × Int))(ts:List (List UInt8 × Bool × Ty × Int))(l2:List Tok):Tr.R De:=
 (if isS [86,65,82] l2 then whileN (varP en r outer) (n0+1) l2.tail else .ok [] l2).bind fun vs l3 => .ok ⟨cs,ts,vs.flatten⟩ l3
def decls2(en:Int)(r:Rc)(outer:Bool)(n0 n1:Nat)(cs:List (List UInt8 × Bool × Ex × Int))(l1:List Tok):Tr.R De:=
 (if isS [84,89,80,69] l1 then whileN (typeP en r outer) (n1+1) l1.tail else .ok [] l1).bind fun ts l2=>decls3 en r outer n0 cs ts l2
def VDe(lo:Nat)(w:World)(v:Value)(d:De):Prop:=∃ a b c,v=.tuple #[a,b,c]∧Is w (fun b=>lo≤b) a (.list 9 (d.consts.map cnD))∧Is w (fun b=>lo≤b) b (.list 13 (fdDs d.types))∧Is w (fun b=>lo≤b) c (.list 13 (fdDs d.vars))
theorem cnD_snoc(xs:List (List UInt8 × Bool × Ex × Int))(x:List UInt8 × Bool × Ex × Int):(xs++[x]).map cnD=xs.map cnD++[cnD x]:=by simp
theorem fdDs_snoc(xs:List (List UInt8 × Bool × Ty × Int))(x:List UInt8 × Bool × Ty × Int):fdDs (xs++[x])=fdDs xs++[fdD x]:=by rw [fdDs_map,fdDs_map,List.map_append];rfl
theorem open_paZ{W:World}{P:Nat→Prop}{cs:List Value}{b:Bool}{t:Tok}(h:Row W P cs (paZ b t)):∃ c5 c6 c7 c8 c9 c10:Value,cs=[.string ⟨t.2.1.toArray⟩,.bool b,.int .i64 0,.string ⟨#[]⟩,.string ⟨#[]⟩,c5,c6,c7,c8,c9,c10,.int .i64 0,.int .i64 t.2.2.2]∧c5.oneCell'=true∧c6.oneCell'=true∧c7.oneCell'=true∧c8.oneCell'=true∧c9.oneCell'=true∧c10.oneCell'=true:=by
 unfold paZ at h
 obtain⟨c0,_,rfl,h0,h⟩:=row_inv h
 obtain⟨c1,_,rfl,h1,h⟩:=row_inv h
 obtain⟨c2,_,rfl,h2,h⟩:=row_inv h
 obtain⟨c3,_,rfl,h3,h⟩:=row_inv h
 obtain⟨c4,_,rfl,h4,h⟩:=row_inv h
 obtain⟨c5,_,rfl,h5,h⟩:=row_inv h
 obtain⟨c6,_,rfl,h6,h⟩:=row_inv h
 obtain⟨c7,_,rfl,h7,h⟩:=row_inv h
 obtain⟨c8,_,rfl,h8,h⟩:=row_inv h
 obtain⟨c9,_,rfl,h9,h⟩:=row_inv h
 obtain⟨c10,_,rfl,h10,h⟩:=row_inv h
 obtain⟨c11,_,rfl,h11,h⟩:=row_inv h
 obtain⟨c12,_,rfl,h12,h⟩:=row_inv h
 obtain rfl:=row_inv0 h
 obtain rfl:=is_str h0
 obtain rfl:=is_bool h1
 obtain rfl:=is_int h2
 obtain rfl:=is_str h3
 obtain rfl:=is_str h4
 obtain rfl:=is_int h11
 obtain rfl:=is_int h12
 exact⟨c5,c6,c7,c8,c9,c10,rfl,h5.one,h6.one,h7.one,h8.one,h9.one,h10.one⟩
theorem wh_okf{β:Type}{F:List Tok→Tr.R (List β)}{acc:List (List β)}{lc l1:List Tok}{fu N0:Nat}{a:List β}{Y:Tr.R (List (List β))}(hY:Y=WhX F acc lc fu∧lc.length≤fu∧lc.length≤N0∧acc.flatten.length+lc.length≤6000)(hn:isN lc=true)(h:F lc=.ok a l1)(hs:l1.length<lc.length)(ha:a.length+l1.length≤lc.length) :
  ∃ f2,Y=WhX F (acc++[a]) l1 f2∧l1.length≤f2∧l1.length≤N0∧(acc++[a]).flatten.length+l1.length≤6000:=by
 obtain⟨h1,h2,h3,h4⟩:=hY
 obtain⟨f2,h5,h6⟩:=whx_ok (acc:=acc) hn h h2 hs
 refine⟨f2,h1.trans h5,h6,by omega,?_⟩
 rw [List.flatten_append,List.length_append]
 simp only [List.flatten_cons,List.flatten_nil,List.append_nil]
 omega
theorem take_map_succ{α β:Type}(f:α→β)(xs:List α)(i:Nat)(h:i<xs.length):(xs.take (i+1)).map f=(xs.take i).map f++[f xs[i]]:=by
 induction xs generalizing i with
 | nil=>simp at h
 | cons x xs ih =>
  cases i with
  | zero=>simp
  | succ i =>
   have:=ih i (by simpa using h)
   simp only [List.take_succ_cons,List.map_cons,List.cons_append,List.getElem_cons_succ]
   rw [this]
end Fr
theorem decls_any(en:Int)(n:Nat)(r:Tr.Rc)(hC:Fr.CR en n r)(hQ:Fr.CQ en)(hE:Fr.CV 147 en n (Tr.exprP en r) Tr.VEx)(outer:Bool)(w:World)(B bp:Nat)(l:List Tr.Tok)(hl:l.length≤n)(hp:Tr.PS w B bp en l) :
  Calls Tryz.prog 101 #[.pointer (some ⟨bp,0,none⟩),.bool outer] w (Tr.Res w B bp en (Tr.declsP en r outer l) (Fr.VDe w.heap.size)):=by
 obtain⟨X,hX⟩:∃ X,X=Tr.declsP en r outer l:=⟨_,rfl⟩
 rw [show Tr.declsP en r outer l=X from hX.symm]
 unfold Tr.declsP at hX
 have HX:=hid hX
 have HB:RowKit.Hid (B≤w.heap.size):=hp.size
 have HF:=hid (Fr.pf_start hp)
 have HL:=hid (show l.length+0≤l.length from Nat.le_refl _)
 have HN:=hid hl
 have HC:=hid hC
 have HQ:=hid hQ
 have HE:=hid hE
 clear hC hQ hE
 have hfl0:=Fr.fld_tok0
 have hfl1:=Fr.fld_tok1
 have hfl3:=Fr.fld_tok3
 clear hX hp hl
 replace HF:=hid (HF.out.own 120 9)
 go_enter Tryz.func101,Tryz.ntmps101
 go_upto_if 21 with(first
  | ((with_reducible refine Fr.is_box ?_);refine Fr.wl_box HF.out rfl rfl ?_;intro b2 W1 HF1;replace HF:=hid HF1;clear HF1)
  | ((with_reducible refine is_load (T:=111) ?_);((refine wl_load1 0 HF.out rfl rfl Tryz.underlying111 rfl rfl ?_)))
  | (go_at_call 100;(with_reducible refine(took_any _ B bp en _ [67,79,78,83,84] HF.out.kp).mono ?_);rintro e W1 ⟨rfl,hr,hps⟩;replace HL:=hid (Fr.took_add [67,79,78,83,84] HL.out);replace HF:=hid (Fr.PF.call HB.out HF.out hr hps);clear hr hps))
 go_cut [4]from 21 to 44 (fun v4 wc=>∃(cs:List (List UInt8 × Bool × Tr.Ex × Int)) (l1:List Tr.Tok),RowKit.Hid (X=Fr.decls2 en r outer l.length l.length cs l1)∧RowKit.Hid (l1.length≤l.length)∧RowKit.Hid (Fr.PF w B bp en l1 wc [.blk b2 [.pointer (some ⟨bp,0,none⟩)],.row v4 120 9 (cs.map cnD)] [])∧RowKit.Hid (cs.length≤6000))
 case first =>
  cases hs:Tr.isS [67,79,78,83,84] l with
  | false =>
   have HX1:=HX.out
   simp only [hs,↓reduceIte,Bool.false_eq_true,bind_ok]at HX1
   replace HX:=hid HX1
   rw [Tr.took_no hs]at HF
   have HL2:=hid (Nat.le_refl l.length)
   clear HX1 hs
   go_wp2
   go_meet
   case rel=>exact⟨[],l,HX,HL2,HF,hid (by simp)⟩
  | true =>
   have HX1:=HX.out
   simp only [hs,↓reduceIte]at HX1
   replace HX:=hid HX1
   rw [Tr.took_ok hs]at HF HL
   have HFU:=hid (Nat.le_refl l.length)
   clear HX1 hs
   go_wp2
   obtain⟨Y,hY⟩:∃ Y,Y=Tr.whileN (Tr.constP en r outer) (l.length+1) l.tail:=⟨_,rfl⟩
   have HX1:=HX.out
   rw [← hY]at HX1
   replace HX:=hid HX1
   clear HX1
   rw [Fr.whx_start]at hY
   have hlen:=HF.out.kp.len
   have HY:=hid (show Y=Fr.WhX (Tr.constP en r outer) [] l.tail l.length∧l.tail.length≤l.length∧l.tail.length≤l.length∧([]:List (List UInt8 × Bool × Tr.Ex × Int)).length+l.tail.length≤6000 from⟨hY,by have h1:=HL.out;have h2:=HFU.out;omega,by have:=HL.out;omega,by simpa using hlen⟩)
   clear hY
   try simp only [Act.put,zA,z0,z1]
   go_loopg [4] l.tail.length (fun g v4 wr=>∃(acc:List (List UInt8 × Bool × Tr.Ex × Int)) (lc:List Tr.Tok) (fu:Nat),g=lc.length∧RowKit.Hid (Fr.PF w B bp en lc wr [.blk b2 [.pointer (some ⟨bp,0,none⟩)],.row v4 120 9 (acc.map cnD)] [])∧RowKit.Hid (Y=Fr.WhX (Tr.constP en r outer) acc lc fu∧lc.length≤fu∧lc.length≤l.length∧acc.length+lc.length≤6000))
   case atStart=>exact⟨[],l.tail,l.length,rfl,HF,HY⟩
   case round =>
    clear HF HY HL
    obtain⟨acc,lc,fu,hg,HF,HY⟩:=hrel
    have HG:=hid hg
    have HM:=hid (HY.out.2.2.1)
    have HL:=hid (show lc.length+0≤lc.length from Nat.le_refl _)
    obtain⟨Z,hZ⟩:∃ Z,Z=(Tr.constP en r outer) lc:=⟨_,rfl⟩
    have HZ:=hid hZ
    unfold Tr.constP at hZ
    have HO:=HX
    replace HX:=hid hZ
    have HAc:=hid HY.out.2.2.2
    clear hZ hg
    go_wp2_with (first
     | (go_at_call 145;(with_reducible refine(named_fm w _ B bp _ en _ _ _ 0 HF.out rfl).mono ?_);rintro e W1 ⟨hf,⟨hn,rfl⟩|⟨hn,rfl⟩⟩;(focus(replace HF:=hid hf;have HNm:=hid hn;clear hf hn));rotate_left;(focus(replace HF:=hid hf;have HNm:=hid hn;clear hf hn));rotate_left)
     | ((with_reducible refine is_load (T:=111) ?_);(first|(refine wl_load1 0 HF.out rfl rfl Tryz.underlying111 rfl rfl ?_)|(refine wl_load1 1 HF.out rfl rfl Tryz.underlying111 rfl rfl ?_)))
     | (go_at_call 146;(with_reducible refine(def_any _ B bp en _ outer HF.out.kp).mono ?_);rintro e W1 ⟨hr,⟨t,l1,v,hx,hps,rfl,hv⟩|⟨q,hx,rfl⟩⟩;(focus(obtain⟨⟨kd,t2,n2,q2⟩,ex⟩:=t;obtain rfl:v=.tuple #[.agg #[.int .i64 kd,.string ⟨t2.toArray⟩,.int .i64 n2,.int .i64 q2],.bool ex]:=hv;(try simp only [hx,↓reduceIte,Fr.bB]at HX);replace HL:=hid (con_add (Tr.con_def en _ _) hx HL.out);replace HF:=hid (Fr.PF.call HB.out HF.out hr hps);clear hr hps hx));rotate_left;(focus((try simp only [hx,↓reduceIte,Fr.bB]at HX);have HR:=hid (rd_trans HF.out.gr hr);clear hr hx));rotate_left)
     | ((with_reducible refine is_alloc (dst:=some 8) ?_);(first|(refine wl_alloc HF.out tyTok ?_));intro b8 W1 HF1;replace HF:=hid HF1;clear HF1)
     | (first|((with_reducible refine is_store (T:=40) ?_);(first|(refine wl_store 0 HF.out tyTok rfl rfl rfl rfl rfl (z4 rfl) oT ?_));intro W1 HF1;simp only [setL,z0,z1]at HF1;replace HF:=hid HF1;clear HF1))
     | (go_at_call 98;(with_reducible refine(skip_any _ B bp en _ _ HF.out.kp).mono ?_);rintro e W1 ⟨hr,⟨_,l2,v,hx,hps,rfl,rfl⟩|⟨q,hx,rfl⟩⟩;(focus((try simp only [hx,↓reduceIte,Fr.bB]at HX);replace HL:=hid (con_add (con_skip en _ _) hx HL.out);replace HF:=hid (Fr.PF.call HB.out HF.out hr hps);clear hr hps hx));rotate_left;(focus((try simp only [hx,↓reduceIte,Fr.bB]at HX);have HR:=hid (rd_trans HF.out.gr hr);clear hr hx));rotate_left))
    all_goals first|(exact⟨rfl,HR.out,.inr ⟨_,Fr.wh_no HO.out HY.out.1 HNm.out (HZ.out ▸ HX.out),rfl⟩⟩)|skip
    ·have HNL:=HL
     obtain⟨tq,htq⟩:∃ tq,tq=t2:=⟨_,rfl⟩
     replace HF:=hid HF.out.drew
     refine wp_region_G (UpTo 10 (fun X=>b8<X.heap.size∧X.cell? ⟨b8,1,none⟩=some (.string ⟨t2.toArray⟩)∧X.cell? ⟨b8,3,none⟩=some (.int .i64 q2)∧b2<X.heap.size∧X.cell? ⟨b2,0,none⟩=some (.pointer (some ⟨bp,0,none⟩)))) 12 (by kernel_rfl) (by kernel_rfl) (fun _=>⟨HF.out.ltAt 0 rfl,HF.out.cellAt 0 rfl 1 rfl,HF.out.cellAt 0 rfl 3 rfl,HF.out.ltAt 1 rfl,HF.out.cellAt 1 rfl 0 rfl⟩) (fun _ hS=>?_)
     generalize World.drew _=W1 at HF hS ⊢
     refine tkM (n:=12) (is:=[0,1]) (k:=2) rfl (by kernel_rfl) hS ?_
     repeat(refine wT (v:=?_) rfl (by rfl) (fun X xb=>?_) ?_;rotate_left 1;(focus(go_simp;try with_reducible rfl));try simp only [Act.put,zA,z0,z1])
     refine wE fun hS=>?_
     refine tkB (n:=12) (is:=[2]) [[9,8,2]] (k:=1) rfl (by kernel_rfl) hS ?_
     repeat(refine wT (v:=?_) rfl (by rfl) (fun X xb=>?_) ?_;rotate_left 1;(focus(go_simp;try with_reducible rfl));try simp only [Act.put,zA,z0,z1])
     refine wE fun hS=>?_
     refine tkM (n:=12) (is:=[3]) (k:=1) rfl (by kernel_rfl) hS ?_
     repeat(refine wT (v:=?_) rfl (by rfl) (fun X xb=>?_) ?_;rotate_left 1;(focus(go_simp;try with_reducible rfl));try simp only [Act.put,zA,z0,z1])
     refine wE fun hS=>?_
     refine tkB (n:=12) (is:=[4]) [[5,4]] (k:=1) rfl (by kernel_rfl) hS ?_
     repeat(refine wT (v:=?_) rfl (by rfl) (fun X xb=>?_) ?_;rotate_left 1;(focus(go_simp;try with_reducible rfl));try simp only [Act.put,zA,z0,z1])
     refine wE fun hS=>?_
     refine tkM (n:=12) (is:=[6]) (k:=1) rfl (by kernel_rfl) hS ?_
     repeat(refine wT (v:=?_) rfl (by rfl) (fun X xb=>?_) ?_;rotate_left 1;(focus(go_simp;try with_reducible rfl));try simp only [Act.put,zA,z0,z1])
     refine wE fun hS=>?_
     refine tkB (n:=12) (is:=[7]) [[9,8,7]] (k:=1) rfl (by kernel_rfl) hS ?_
     repeat(refine wT (v:=?_) rfl (by rfl) (fun X xb=>?_) ?_;rotate_left 1;(focus(go_simp;try with_reducible rfl));try simp only [Act.put,zA,z0,z1])
     refine wE fun hS=>?_
     refine rd1 (i:=5) (by kernel_rfl) (.cons rfl (fun K hK=>?_) .nil)
     go_simp
     (go_at_call 147;(with_reducible refine(HE.out _ B bp _ (by have h1:=HL.out;have h2:=HN.out;(try have h3:=HM.out);omega) HF.out.kp).mono ?_);rintro e W1 ⟨hr,⟨ta,l1,v,hx,hps,rfl,hV⟩|⟨q,hx,rfl⟩⟩;(focus(obtain⟨k0,n0,tx0,op0,xs0,p0,va,rfl,hD,hdp,hd0⟩:=Fr.VEx.parts hV;(try simp only [hx,↓reduceIte,Fr.bB]at HX);replace HL:=hid (con_add (Tr.con_expr en HC.out.ce.rg _) hx HL.out);have HF2:=Fr.PF.call HB.out HF.out hr hps;replace HF2:=Fr.Fm.since HF.out HF2 hd0;replace HF:=hid HF2;clear HF2 hr hps hx hd0));rotate_left;(focus((try simp only [hx,↓reduceIte,Fr.bB]at HX);have HR:=hid (rd_trans HF.out.gr hr);clear hr hx));rotate_left)
     rotate_left
     ·go_simp
      exact⟨rfl,HR.out,.inr ⟨_,Fr.wh_no HO.out HY.out.1 HNm.out (HZ.out ▸ HX.out),rfl⟩⟩
     go_simp
     refine hK.out _ _ (fun _=>⟨HF.out.ltAt 0 rfl,HF.out.cellAt 0 rfl 1 rfl,HF.out.cellAt 0 rfl 3 rfl,HF.out.ltAt 1 rfl,HF.out.cellAt 1 rfl 0 rfl⟩) fun hS=>?_;clear hK K
     try simp only [Act.put,zA,z0,z1]
     refine tkM (n:=12) (is:=[8]) (k:=1) rfl (by kernel_rfl) hS ?_
     repeat(refine wT (v:=?_) rfl (by rfl) (fun X xb=>?_) ?_;rotate_left 1;(focus(go_simp;try with_reducible rfl));try simp only [Act.put,zA,z0,z1])
     refine wE fun hS=>?_
     refine rd1 (i:=9) (by kernel_rfl) (.cons rfl (fun K hK=>?_) .nil)
     refine(if_pos (by rfl)).mpr ?_
     refine Fr.ow_lit1 HF.out Tryz.underlying24 Fr.tyC (by simp) (by simp) rfl rfl rfl rfl (row:=cnD (t2,ex,ta,q2)) ?_ ?_
     focus(simp only [cnD,hD,List.cons_append,List.nil_append];(repeat' (first|exact Da.row_nil _ _|exact Da.Is.int _|exact Da.Is.str _|exact Da.Is.bool _|exact HF.out.da 0 _ _ rfl|refine Da.row_cons ?_ ?_)))
     intro b1 W1 HF1
     replace HF:=hid HF1;clear HF1
     refine hK.out _ _ (fun _=>⟨HF.out.ltAt 0 rfl,HF.out.cellAt 0 rfl 1 rfl,HF.out.cellAt 0 rfl 3 rfl,HF.out.ltAt 1 rfl,HF.out.cellAt 1 rfl 0 rfl⟩) fun hS=>?_;clear hK K
     try simp only [Act.put,zA,z0,z1]
     refine rd1 (i:=10) (by kernel_rfl) (.cons rfl (fun K hK=>?_) .nil)
     refine(if_pos (by rfl)).mpr ?_
     refine Fr.ow_append 2 0 HF.out Tryz.underlying24 Fr.tyC (by simp) (by simp) rfl rfl rfl rfl rfl rfl ?_ ?_
     focus(have h1:=HAc.out;have h2:=HNL.out;simp only [List.length_map,List.length_cons,List.length_nil];omega)
     intro v1 W1 HF1
     simp only [setL,z0,z1]at HF1;replace HF:=hid HF1;clear HF1
     refine hK.out _ _ (fun h=>absurd h (by simp [Fr.setAll])) fun hS=>?_;clear hK K
     try simp only [Act.put,zA,z0,z1]
     refine tkM (n:=12) (is:=[11]) (k:=1) rfl (by kernel_rfl) hS ?_
     repeat(refine wT (v:=?_) rfl (by rfl) (fun X xb=>?_) ?_;rotate_left 1;(focus(go_simp;try with_reducible rfl));try simp only [Act.put,zA,z0,z1])
     refine wE fun hS=>?_
     refine wpAnyG_done (by kernel_rfl) ?_ _
     clear hS
     go_wp2_with (first
      | ((with_reducible refine is_load (T:=111) ?_);((refine wl_load1 1 HF.out rfl rfl Tryz.underlying111 rfl rfl ?_)))
      | (go_at_call 98;(with_reducible refine(skip_any _ B bp en _ _ HF.out.kp).mono ?_);rintro e W1 ⟨hr,⟨_,l1,v,hx,hps,rfl,rfl⟩|⟨q,hx,rfl⟩⟩;(focus((try simp only [hx,↓reduceIte,Fr.bB]at HX);replace HL:=hid (con_add (con_skip en _ _) hx HL.out);replace HF:=hid (Fr.PF.call HB.out HF.out hr hps);clear hr hps hx));rotate_left;(focus((try simp only [hx,↓reduceIte,Fr.bB]at HX);have HR:=hid (rd_trans HF.out.gr hr);clear hr hx));rotate_left))
     all_goals first|(exact⟨rfl,HR.out,.inr ⟨_,Fr.wh_no HO.out HY.out.1 HNm.out (HZ.out ▸ HX.out),rfl⟩⟩)|skip
     obtain⟨fu2,h1,h2,h3,h4⟩:=Fr.wh_ok HY.out HNm.out (HZ.out.symm.trans HX.out) (show l1.length<lc.length by have:=HL.out;omega)
     go_roundg l1.length
     case rel=>exact⟨_,l1,fu2,rfl,hid (by rw [Fr.cnD_snoc];exact HF.out.pick [1,2] [] (by decide) (by simp) (by simp)),hid ⟨h1,h2,h3,h4⟩⟩
     case measure=>rw [HG.out];have:=HL.out;omega
    ·have HXe:=hid (show X=Fr.decls2 en r outer l.length l.length acc lc by rw [HO.out,HY.out.1,Fr.whx_end HNm.out];rfl)
     go_wp2
     go_meet
     case rel=>exact⟨acc,lc,HXe,HM,HF,hid (by have:=HAc.out;omega)⟩
 case rest =>
  clear HF HX HL
  obtain⟨cs,l1,HX,HL0,HF,HCs⟩:=hcut
  have HL:=hid (show l1.length+0≤l.length from HL0.out)
  have HFU:=hid HL0.out
  have HX1:=HX.out
  unfold Fr.decls2 at HX1
  replace HX:=hid HX1
  clear HX1
  replace HF:=hid ((HF.out.own 125 13).pick [1,2,0] [] (by decide) (by simp) (by simp))
  go_upto_if 46 with(first
   | ((with_reducible refine is_load (T:=111) ?_);((refine wl_load1 0 HF.out rfl rfl Tryz.underlying111 rfl rfl ?_)))
   | (go_at_call 100;(with_reducible refine(took_any _ B bp en _ [84,89,80,69] HF.out.kp).mono ?_);rintro e W1 ⟨rfl,hr,hps⟩;replace HL:=hid (Fr.took_add [84,89,80,69] HL.out);replace HF:=hid (Fr.PF.call HB.out HF.out hr hps);clear hr hps))
  go_cut [5]from 46 to 69 (fun v5 wc=>∃(ts:List (List UInt8 × Bool × Tr.Ty × Int)) (l2:List Tr.Tok),RowKit.Hid (X=Fr.decls3 en r outer l.length cs ts l2)∧RowKit.Hid (l2.length≤l.length)∧RowKit.Hid (Fr.PF w B bp en l2 wc [.blk b2 [.pointer (some ⟨bp,0,none⟩)],.row u4 120 9 (cs.map cnD),.row v5 125 13 (fdDs ts)] [])∧RowKit.Hid (ts.length≤6000))
  case first =>
   cases hs:Tr.isS [84,89,80,69] l1 with
   | false =>
    have HX1:=HX.out
    simp only [hs,↓reduceIte,Bool.false_eq_true,bind_ok]at HX1
    replace HX:=hid HX1
    rw [Tr.took_no hs]at HF
    clear HX1 hs
    go_wp2
    go_meet
    case rel=>exact⟨[],l1,HX,HL0,HF,hid (by simp)⟩
   | true =>
    have HX1:=HX.out
    simp only [hs,↓reduceIte]at HX1
    replace HX:=hid HX1
    rw [Tr.took_ok hs]at HF HL
    have HFU2:=hid (show l1.tail.length≤l.length by have h1:=HL.out;omega)
    clear HX1 hs
    go_wp2
    obtain⟨Y,hY⟩:∃ Y,Y=Tr.whileN (Tr.typeP en r outer) (l.length+1) l1.tail:=⟨_,rfl⟩
    have HX1:=HX.out
    rw [← hY]at HX1
    replace HX:=hid HX1
    clear HX1
    rw [Fr.whx_start]at hY
    have hlen:=HF.out.kp.len
    have HY:=hid (show Y=Fr.WhX (Tr.typeP en r outer) [] l1.tail l.length∧l1.tail.length≤l.length∧l1.tail.length≤l.length∧([]:List (List UInt8 × Bool × Tr.Ty × Int)).length+l1.tail.length≤6000 from⟨hY,by have h1:=HL.out;skip;omega,by have:=HL.out;omega,by simpa using hlen⟩)
    clear hY
    try simp only [Act.put,zA,z0,z1]
    go_loopg [5] l1.tail.length (fun g v5 wr=>∃(acc:List (List UInt8 × Bool × Tr.Ty × Int)) (lc:List Tr.Tok) (fu:Nat),g=lc.length∧RowKit.Hid (Fr.PF w B bp en lc wr [.blk b2 [.pointer (some ⟨bp,0,none⟩)],.row u4 120 9 (cs.map cnD),.row v5 125 13 (fdDs acc)] [])∧RowKit.Hid (Y=Fr.WhX (Tr.typeP en r outer) acc lc fu∧lc.length≤fu∧lc.length≤l.length∧acc.length+lc.length≤6000))
    case atStart=>exact⟨[],l1.tail,l.length,rfl,HF,HY⟩
    case round =>
     clear HF HY HL
     obtain⟨acc,lc,fu,hg,HF,HY⟩:=hrel
     have HG:=hid hg
     have HM:=hid (HY.out.2.2.1)
     have HL:=hid (show lc.length+0≤lc.length from Nat.le_refl _)
     obtain⟨Z,hZ⟩:∃ Z,Z=(Tr.typeP en r outer) lc:=⟨_,rfl⟩
     have HZ:=hid hZ
     unfold Tr.typeP at hZ
     have HO:=HX
     replace HX:=hid hZ
     have HAc:=hid HY.out.2.2.2
     clear hZ hg
     go_wp2_with (first
      | (go_at_call 145;(with_reducible refine(named_fm w _ B bp _ en _ _ _ 0 HF.out rfl).mono ?_);rintro e W1 ⟨hf,⟨hn,rfl⟩|⟨hn,rfl⟩⟩;(focus(replace HF:=hid hf;have HNm:=hid hn;clear hf hn));rotate_left;(focus(replace HF:=hid hf;have HNm:=hid hn;clear hf hn));rotate_left)
      | ((with_reducible refine is_load (T:=111) ?_);(first|(refine wl_load1 0 HF.out rfl rfl Tryz.underlying111 rfl rfl ?_)|(refine wl_load1 1 HF.out rfl rfl Tryz.underlying111 rfl rfl ?_)))
      | (go_at_call 146;(with_reducible refine(def_any _ B bp en _ outer HF.out.kp).mono ?_);rintro e W1 ⟨hr,⟨t,l1,v,hx,hps,rfl,hv⟩|⟨q,hx,rfl⟩⟩;(focus(obtain⟨⟨kd,t2,n2,q2⟩,ex⟩:=t;obtain rfl:v=.tuple #[.agg #[.int .i64 kd,.string ⟨t2.toArray⟩,.int .i64 n2,.int .i64 q2],.bool ex]:=hv;(try simp only [hx,↓reduceIte,Fr.bB]at HX);replace HL:=hid (con_add (Tr.con_def en _ _) hx HL.out);replace HF:=hid (Fr.PF.call HB.out HF.out hr hps);clear hr hps hx));rotate_left;(focus((try simp only [hx,↓reduceIte,Fr.bB]at HX);have HR:=hid (rd_trans HF.out.gr hr);clear hr hx));rotate_left)
      | ((with_reducible refine is_alloc (dst:=some 10) ?_);(first|(refine wl_alloc HF.out tyTok ?_));intro b10 W1 HF1;replace HF:=hid HF1;clear HF1)
      | (first|((with_reducible refine is_store (T:=40) ?_);(first|(refine wl_store 0 HF.out tyTok rfl rfl rfl rfl rfl (z4 rfl) oT ?_));intro W1 HF1;simp only [setL,z0,z1]at HF1;replace HF:=hid HF1;clear HF1))
      | (go_at_call 98;(with_reducible refine(skip_any _ B bp en _ _ HF.out.kp).mono ?_);rintro e W1 ⟨hr,⟨_,l2,v,hx,hps,rfl,rfl⟩|⟨q,hx,rfl⟩⟩;(focus((try simp only [hx,↓reduceIte,Fr.bB]at HX);replace HL:=hid (con_add (con_skip en _ _) hx HL.out);replace HF:=hid (Fr.PF.call HB.out HF.out hr hps);clear hr hps hx));rotate_left;(focus((try simp only [hx,↓reduceIte,Fr.bB]at HX);have HR:=hid (rd_trans HF.out.gr hr);clear hr hx));rotate_left))
     all_goals first|(exact⟨rfl,HR.out,.inr ⟨_,Fr.wh_no HO.out HY.out.1 HNm.out (HZ.out ▸ HX.out),rfl⟩⟩)|skip
     ·have HNL:=HL
      obtain⟨tq,htq⟩:∃ tq,tq=t2:=⟨_,rfl⟩
      replace HF:=hid HF.out.drew
      refine wp_region_G (UpTo 10 (fun X=>b10<X.heap.size∧X.cell? ⟨b10,1,none⟩=some (.string ⟨t2.toArray⟩)∧X.cell? ⟨b10,3,none⟩=some (.int .i64 q2)∧b2<X.heap.size∧X.cell? ⟨b2,0,none⟩=some (.pointer (some ⟨bp,0,none⟩)))) 12 (by kernel_rfl) (by kernel_rfl) (fun _=>⟨HF.out.ltAt 0 rfl,HF.out.cellAt 0 rfl 1 rfl,HF.out.cellAt 0 rfl 3 rfl,HF.out.ltAt 1 rfl,HF.out.cellAt 1 rfl 0 rfl⟩) (fun _ hS=>?_)
      generalize World.drew _=W1 at HF hS ⊢
      refine tkM (n:=12) (is:=[0,1]) (k:=2) rfl (by kernel_rfl) hS ?_
      repeat(refine wT (v:=?_) rfl (by rfl) (fun X xb=>?_) ?_;rotate_left 1;(focus(go_simp;try with_reducible rfl));try simp only [Act.put,zA,z0,z1])
      refine wE fun hS=>?_
      refine tkB (n:=12) (is:=[2]) [[9,8,2]] (k:=1) rfl (by kernel_rfl) hS ?_
      repeat(refine wT (v:=?_) rfl (by rfl) (fun X xb=>?_) ?_;rotate_left 1;(focus(go_simp;try with_reducible rfl));try simp only [Act.put,zA,z0,z1])
      refine wE fun hS=>?_
      refine tkM (n:=12) (is:=[3]) (k:=1) rfl (by kernel_rfl) hS ?_
      repeat(refine wT (v:=?_) rfl (by rfl) (fun X xb=>?_) ?_;rotate_left 1;(focus(go_simp;try with_reducible rfl));try simp only [Act.put,zA,z0,z1])
      refine wE fun hS=>?_
      refine tkB (n:=12) (is:=[4]) [[5,4]] (k:=1) rfl (by kernel_rfl) hS ?_
      repeat(refine wT (v:=?_) rfl (by rfl) (fun X xb=>?_) ?_;rotate_left 1;(focus(go_simp;try with_reducible rfl));try simp only [Act.put,zA,z0,z1])
      refine wE fun hS=>?_
      refine tkM (n:=12) (is:=[6]) (k:=1) rfl (by kernel_rfl) hS ?_
      repeat(refine wT (v:=?_) rfl (by rfl) (fun X xb=>?_) ?_;rotate_left 1;(focus(go_simp;try with_reducible rfl));try simp only [Act.put,zA,z0,z1])
      refine wE fun hS=>?_
      refine tkB (n:=12) (is:=[7]) [[9,8,7]] (k:=1) rfl (by kernel_rfl) hS ?_
      repeat(refine wT (v:=?_) rfl (by rfl) (fun X xb=>?_) ?_;rotate_left 1;(focus(go_simp;try with_reducible rfl));try simp only [Act.put,zA,z0,z1])
      refine wE fun hS=>?_
      refine rd1 (i:=5) (by kernel_rfl) (.cons rfl (fun K hK=>?_) .nil)
      go_simp
      (go_at_call 148;(with_reducible refine(typ_any en n r HC.out HQ.out HE.out _ B bp _ (by have h1:=HL.out;have h2:=HN.out;(try have h3:=HM.out);omega) HF.out.kp).mono ?_);rintro e W1 ⟨hr,⟨ta,l1,v,hx,hps,rfl,hV⟩|⟨q,hx,rfl⟩⟩;(focus(obtain⟨k0,m0,n0,ls0,el0,ba0,fs0,ps0,rs0,p0,v3,v4,v5,v6,v7,v8,rfl,hD,hd0,hd1,hd2,hd3,hd4,hd5⟩:=Fr.VTy.open hV;(try simp only [hx,↓reduceIte,Fr.bB]at HX);replace HL:=hid (con_add (Tr.con_typ en HC.out.ce.rg _) hx HL.out);have HF2:=Fr.PF.call HB.out HF.out hr hps;replace HF2:=Fr.Fm.since HF.out HF2 hd5;replace HF2:=Fr.Fm.since HF.out HF2 hd4;replace HF2:=Fr.Fm.since HF.out HF2 hd3;replace HF2:=Fr.Fm.since HF.out HF2 hd2;replace HF2:=Fr.Fm.since HF.out HF2 hd1;replace HF2:=Fr.Fm.since HF.out HF2 hd0;replace HF:=hid HF2;clear HF2 hr hps hx hd0 hd1 hd2 hd3 hd4 hd5));rotate_left;(focus((try simp only [hx,↓reduceIte,Fr.bB]at HX);have HR:=hid (rd_trans HF.out.gr hr);clear hr hx));rotate_left)
      rotate_left
      ·go_simp
       exact⟨rfl,HR.out,.inr ⟨_,Fr.wh_no HO.out HY.out.1 HNm.out (HZ.out ▸ HX.out),rfl⟩⟩
      go_simp
      refine hK.out _ _ (fun _=>⟨HF.out.ltAt 0 rfl,HF.out.cellAt 0 rfl 1 rfl,HF.out.cellAt 0 rfl 3 rfl,HF.out.ltAt 1 rfl,HF.out.cellAt 1 rfl 0 rfl⟩) fun hS=>?_;clear hK K
      try simp only [Act.put,zA,z0,z1]
      refine tkM (n:=12) (is:=[8]) (k:=1) rfl (by kernel_rfl) hS ?_
      repeat(refine wT (v:=?_) rfl (by rfl) (fun X xb=>?_) ?_;rotate_left 1;(focus(go_simp;try with_reducible rfl));try simp only [Act.put,zA,z0,z1])
      refine wE fun hS=>?_
      refine rd1 (i:=9) (by kernel_rfl) (.cons rfl (fun K hK=>?_) .nil)
      refine(if_pos (by rfl)).mpr ?_
      refine Fr.ow_lit1 HF.out Tryz.underlying25 Fr.tyTy (by simp) (by simp) rfl rfl rfl rfl (row:=Tr.fdD (t2,ex,ta,q2)) ?_ ?_
      focus(simp only [Tr.fdD,hD,List.cons_append,List.nil_append];(repeat' (first|exact Da.row_nil _ _|exact Da.Is.int _|exact Da.Is.str _|exact Da.Is.bool _|(refine HF.out.isM ?_;simp;done)|refine Da.row_cons ?_ ?_)))
      intro b1 W1 HF1
      replace HF:=hid HF1;clear HF1
      refine hK.out _ _ (fun _=>⟨HF.out.ltAt 0 rfl,HF.out.cellAt 0 rfl 1 rfl,HF.out.cellAt 0 rfl 3 rfl,HF.out.ltAt 1 rfl,HF.out.cellAt 1 rfl 0 rfl⟩) fun hS=>?_;clear hK K
      try simp only [Act.put,zA,z0,z1]
      refine rd1 (i:=10) (by kernel_rfl) (.cons rfl (fun K hK=>?_) .nil)
      refine(if_pos (by rfl)).mpr ?_
      refine Fr.ow_append 3 0 HF.out Tryz.underlying25 Fr.tyTy (by simp) (by simp) rfl rfl rfl rfl rfl rfl ?_ ?_
      focus(have h1:=HAc.out;have h2:=HNL.out;simp only [Fr.fdDs_len,List.length_cons,List.length_nil];omega)
      intro v1 W1 HF1
      simp only [setL,z0,z1]at HF1;replace HF:=hid HF1;clear HF1
      refine hK.out _ _ (fun h=>absurd h (by simp [Fr.setAll])) fun hS=>?_;clear hK K
      try simp only [Act.put,zA,z0,z1]
      refine tkM (n:=12) (is:=[11]) (k:=1) rfl (by kernel_rfl) hS ?_
      repeat(refine wT (v:=?_) rfl (by rfl) (fun X xb=>?_) ?_;rotate_left 1;(focus(go_simp;try with_reducible rfl));try simp only [Act.put,zA,z0,z1])
      refine wE fun hS=>?_
      refine wpAnyG_done (by kernel_rfl) ?_ _
      clear hS
      go_wp2_with (first
       | ((with_reducible refine is_load (T:=111) ?_);((refine wl_load1 1 HF.out rfl rfl Tryz.underlying111 rfl rfl ?_)))
       | (go_at_call 98;(with_reducible refine(skip_any _ B bp en _ _ HF.out.kp).mono ?_);rintro e W1 ⟨hr,⟨_,l1,v,hx,hps,rfl,rfl⟩|⟨q,hx,rfl⟩⟩;(focus((try simp only [hx,↓reduceIte,Fr.bB]at HX);replace HL:=hid (con_add (con_skip en _ _) hx HL.out);replace HF:=hid (Fr.PF.call HB.out HF.out hr hps);clear hr hps hx));rotate_left;(focus((try simp only [hx,↓reduceIte,Fr.bB]at HX);have HR:=hid (rd_trans HF.out.gr hr);clear hr hx));rotate_left))
      all_goals first|(exact⟨rfl,HR.out,.inr ⟨_,Fr.wh_no HO.out HY.out.1 HNm.out (HZ.out ▸ HX.out),rfl⟩⟩)|skip
      obtain⟨fu2,h1,h2,h3,h4⟩:=Fr.wh_ok HY.out HNm.out (HZ.out.symm.trans HX.out) (show l1.length<lc.length by have:=HL.out;omega)
      go_roundg l1.length
      case rel=>exact⟨_,l1,fu2,rfl,hid (by rw [Fr.fdDs_snoc];exact HF.out.pick [1,2,3] [] (by decide) (by simp) (by simp)),hid ⟨h1,h2,h3,h4⟩⟩
      case measure=>rw [HG.out];have:=HL.out;omega
     ·have HXe:=hid (show X=Fr.decls3 en r outer l.length cs acc lc by rw [HO.out,HY.out.1,Fr.whx_end HNm.out];rfl)
      go_wp2
      go_meet
      case rel=>exact⟨acc,lc,HXe,HM,HF,hid (by have:=HAc.out;omega)⟩
  case rest =>
   clear HF HX HL
   obtain⟨ts,l2,HX,HL0,HF,HTs⟩:=hcut
   have HL:=hid (show l2.length+0≤l.length from HL0.out)
   have HX1:=HX.out
   unfold Fr.decls3 at HX1
   replace HX:=hid HX1
   clear HX1
   replace HF:=hid ((HF.out.own 126 13).pick [1,2,3,0] [] (by decide) (by simp) (by simp))
   go_wp2_with (first
    | ((with_reducible refine is_load (T:=111) ?_);((refine wl_load1 0 HF.out rfl rfl Tryz.underlying111 rfl rfl ?_)))
    | (go_at_call 100;(with_reducible refine(Fr.took_split _ B bp en _ _ HF.out.kp).mono ?_);rintro e W1 ⟨hr,⟨hs,rfl,hps⟩|⟨hs,rfl,hps⟩⟩;(focus((try simp only [hs,↓reduceIte,Fr.bB]at HX);replace HF:=hid (Fr.PF.call HB.out HF.out hr hps);replace HL:=hid (Fr.tail_add hs HL.out);clear hr hps hs));rotate_left;(focus((try simp only [hs,↓reduceIte,Fr.bB]at HX);replace HF:=hid (Fr.PF.call HB.out HF.out hr hps);clear hr hps hs));rotate_left))
   ·skip
    obtain⟨Y,hY⟩:∃ Y,Y=Tr.whileN (Tr.varP en r outer) (l.length+1) l2.tail:=⟨_,rfl⟩
    have HX1:=HX.out
    rw [← hY]at HX1
    replace HX:=hid HX1
    clear HX1
    rw [Fr.whx_start]at hY
    have hlen:=HF.out.kp.len
    have HY:=hid (show Y=Fr.WhX (Tr.varP en r outer) [] l2.tail l.length∧l2.tail.length≤l.length∧l2.tail.length≤l.length∧([]:List (List (List UInt8 × Bool × Tr.Ty × Int))).flatten.length+l2.tail.length≤6000 from⟨hY,by have h1:=HL.out;omega,by have:=HL.out;omega,by simpa using hlen⟩)
    clear hY
    try simp only [Act.put,zA,z0,z1]
    go_loopg [6] l2.tail.length (fun g v6 wr=>∃(acc:List (List (List UInt8 × Bool × Tr.Ty × Int))) (lc:List Tr.Tok) (fu:Nat),g=lc.length∧RowKit.Hid (Fr.PF w B bp en lc wr [.blk b2 [.pointer (some ⟨bp,0,none⟩)],.row u4 120 9 (cs.map cnD),.row u5 125 13 (fdDs ts),.row v6 126 13 (fdDs acc.flatten)] [])∧RowKit.Hid (Y=Fr.WhX (Tr.varP en r outer) acc lc fu∧lc.length≤fu∧lc.length≤l.length∧acc.flatten.length+lc.length≤6000))
    case atStart=>exact⟨[],l2.tail,l.length,rfl,HF,HY⟩
    case round =>
     clear HF HY HL
     obtain⟨acc,lc,fu,hg,HF,HYY⟩:=hrel
     have HGG:=hid hg
     have HMO:=hid (HYY.out.2.2.1)
     have HM:=HMO
     have HL:=hid (show lc.length+0≤lc.length from Nat.le_refl _)
     obtain⟨ZZ,hZ⟩:∃ Z,Z=(Tr.varP en r outer) lc:=⟨_,rfl⟩
     have HZZ:=hid hZ
     unfold Tr.varP at hZ
     have HOO:=HX
     replace HX:=hid hZ
     have HAC:=hid HYY.out.2.2.2
     clear hZ hg
     go_wp2_with (first
      | (go_at_call 145;(with_reducible refine(named_fm w _ B bp _ en _ _ _ 0 HF.out rfl).mono ?_);rintro e W1 ⟨hf,⟨hn,rfl⟩|⟨hn,rfl⟩⟩;(focus(replace HF:=hid hf;have HNm:=hid hn;clear hf hn));rotate_left;(focus(replace HF:=hid hf;have HNm:=hid hn;clear hf hn));rotate_left))
     ·obtain⟨Y,hY⟩:∃ Y,Y=Tr.manyC Tr.comma (Tr.defT en outer) (lc.length+1) lc:=⟨_,rfl⟩
      have HX1:=HX.out
      rw [← hY]at HX1
      replace HX:=hid HX1
      clear HX1
      rw [Tr.loopx_start]at hY
      have hlen:=HF.out.kp.len
      have HY:=hid (show Y=Tr.LoopX Tr.comma (Tr.defT en outer) [] true lc lc.length∧lc.length≤lc.length∧lc.length+0≤lc.length∧([]:List (Tr.Tok × Bool)).length+lc.length≤lc.length∧(true=true∨([]:List (Tr.Tok × Bool)) ≠ [])from⟨hY,Nat.le_refl _,HL.out,by simp,.inl rfl⟩)
      clear hY
      try simp only [Act.put,zA,z0,z1]
      go_loopg [12,13] (Tr.meas true lc) (fun g v12 v13 wr=>∃(acc2:List (Tr.Tok × Bool)) (more:Bool) (lc2:List Tr.Tok) (fu2:Nat),g=Tr.meas more lc2∧v13=.bool more∧RowKit.Hid (Fr.PF w B bp en lc2 wr [.row v12 126 13 (acc2.map Fr.fiZ),.blk b2 [.pointer (some ⟨bp,0,none⟩)],.row u4 120 9 (cs.map cnD),.row u5 125 13 (fdDs ts),.row u6 126 13 (fdDs acc.flatten)] [])∧RowKit.Hid (Y=Tr.LoopX Tr.comma (Tr.defT en outer) acc2 more lc2 fu2∧lc2.length≤fu2∧lc2.length+0≤lc.length∧acc2.length+lc2.length≤lc.length∧(more=true∨acc2 ≠ [])))
      case atStart=>exact⟨[],true,lc,lc.length,rfl,rfl,hid (HF.out.own 126 13),HY⟩
      case round =>
       clear HF HY HL
       obtain⟨acc2,more,lc2,fu2,hg,hm,HF,HY⟩:=hrel
       subst hm
       cases more with
       | false =>
        have HX1:=HX.out
        rw [HY.out.1,Tr.loopx_end,bind_ok]at HX1
        replace HX:=hid HX1
        have hac:acc2 ≠ []:=by have:=HY.out.2.2.2.2;simpa using this
        have HL:=hid (show lc2.length+0≤lc2.length from Nat.le_refl _)
        have HLC:=hid (show lc2.length≤lc.length from HY.out.2.2.1)
        have HM:=hid (show lc2.length≤l.length by have h1:=HLC.out;have h2:=HMO.out;omega)
        have HA2:=hid HY.out.2.2.2.1
        obtain⟨ts2,hts2⟩:∃ ts2,ts2=acc2:=⟨_,rfl⟩
        subst hts2
        obtain⟨bl,cap,rfl,hcap1,hcap2⟩:∃ b cap:Nat,u12=.slice (some ⟨b,0,none⟩) ts2.length cap∧ts2.length≤cap∧cap≤maxLen:=by
         rcases HF.out.rowForm (k:=0) rfl with⟨h,_⟩|h
         ·exact absurd (List.map_eq_nil_iff.1 h) hac
         ·simpa using h
        have hal:ts2.length≤6000:=by have:=HA2.out;omega
        have hai:(ts2.length:Int)≤6000:=by omega
        clear HX1 HY
        go_wp2_with (first
         | ((with_reducible refine is_load (T:=111) ?_);((refine wl_load1 1 HF.out rfl rfl Tryz.underlying111 rfl rfl ?_)))
         | (go_at_call 98;(with_reducible refine(skip_any _ B bp en _ _ HF.out.kp).mono ?_);rintro e W1 ⟨hr,⟨_,l3,v,hx,hps,rfl,rfl⟩|⟨q,hx,rfl⟩⟩;(focus((try simp only [hx,↓reduceIte,Fr.bB]at HX);replace HL:=hid (con_add (con_skip en _ _) hx HL.out);replace HF:=hid (Fr.PF.call HB.out HF.out hr hps);clear hr hps hx));rotate_left;(focus((try simp only [hx,↓reduceIte,Fr.bB]at HX);have HR:=hid (rd_trans HF.out.gr hr);clear hr hx));rotate_left)
         | (go_at_call 148;(with_reducible refine(typ_any en n r HC.out HQ.out HE.out _ B bp _ (by have h1:=HL.out;have h2:=HN.out;(try have h3:=HM.out);omega) HF.out.kp).mono ?_);rintro e W1 ⟨hr,⟨tb,l4,v,hx,hps,rfl,hV⟩|⟨q,hx,rfl⟩⟩;(focus(obtain⟨k0,m0,n0,ls0,el0,ba0,fs0,ps0,rs0,p0,v3,v4,v5,v6,v7,v8,rfl,hD,hd0,hd1,hd2,hd3,hd4,hd5⟩:=Fr.VTy.open hV;(try simp only [hx,↓reduceIte,Fr.bB]at HX);replace HL:=hid (con_add (Tr.con_typ en HC.out.ce.rg _) hx HL.out);have HF2:=Fr.PF.call HB.out HF.out hr hps;replace HF2:=Fr.Fm.since HF.out HF2 hd5;replace HF2:=Fr.Fm.since HF.out HF2 hd4;replace HF2:=Fr.Fm.since HF.out HF2 hd3;replace HF2:=Fr.Fm.since HF.out HF2 hd2;replace HF2:=Fr.Fm.since HF.out HF2 hd1;replace HF2:=Fr.Fm.since HF.out HF2 hd0;replace HF:=hid HF2;clear HF2 hr hps hx hd0 hd1 hd2 hd3 hd4 hd5));rotate_left;(focus((try simp only [hx,↓reduceIte,Fr.bB]at HX);have HR:=hid (rd_trans HF.out.gr hr);clear hr hx));rotate_left)
         | ((with_reducible refine is_alloc (dst:=some 16) ?_);(first|(refine wl_alloc HF.out tyT ?_));intro b16 W1 HF1;replace HF:=hid HF1;clear HF1)
         | (first|((with_reducible refine is_store (T:=123) ?_);(first|(refine wl_store 0 HF.out tyT rfl rfl rfl rfl rfl (z4 rfl) oT ?_));intro W1 HF1;simp only [setL,z0,z1]at HF1;replace HF:=hid HF1;clear HF1)))
        all_goals first|(exact⟨rfl,HR.out,.inr ⟨_,Fr.wh_no HOO.out HYY.out.1 HNm.out (HZZ.out ▸ HX.out),rfl⟩⟩)|skip
        have HD:=hid hD
        clear hD hV
        have HV:=HF.out.close (k:=1) rfl
        replace HF:=hid (show Fr.PF w B bp en l4 W1 [.blk b16 [.int .i64 k0,.string ⟨m0.toArray⟩,.string ⟨n0.toArray⟩,v3,v4,v5,v6,v7,v8,.int .i64 p0],.blk b2 [.pointer (some ⟨bp,0,none⟩)],.row u4 120 9 (cs.map cnD),.row u5 125 13 (fdDs ts),.row u6 126 13 (fdDs acc.flatten++(ts2.take 0).map (Fr.fiF tb))] ((.slice (some ⟨bl,0,none⟩) ts2.length cap,.list 13 (ts2.map Fr.fiZ))::[(v3,.list 6 (Tr.exDs ls0)),(v4,.list 10 (tyDs el0)),(v5,.list 10 (tyDs ba0)),(v6,.list 13 (fdDs fs0)),(v7,.list 13 (fdDs ps0)),(v8,.list 10 (tyDs rs0))])from by simp only [List.take_zero,List.map_nil,List.append_nil];exact HV.pick [0,2,3,4,5] [0,1,2,3,4,5,6] (by decide) (by simp) (by simp))
        clear HV
        try simp only [Act.put,zA,z0,z1]
        have HC2:=hid (show acc.flatten.length+ts2.length+l4.length+1≤6001 by have h1:=HAC.out;have h2:=HL.out;have h3:=HA2.out;omega)
        go_loopg [6,98] ts2.length (fun g v6' v98 wr2=>∃ i:Nat,i≤ts2.length∧g=ts2.length - i∧v98=.int .i64 i∧RowKit.Hid (Fr.PF w B bp en l4 wr2 [.blk b16 [.int .i64 k0,.string ⟨m0.toArray⟩,.string ⟨n0.toArray⟩,v3,v4,v5,v6,v7,v8,.int .i64 p0],.blk b2 [.pointer (some ⟨bp,0,none⟩)],.row u4 120 9 (cs.map cnD),.row u5 125 13 (fdDs ts),.row v6' 126 13 (fdDs acc.flatten++(ts2.take i).map (Fr.fiF tb))] ((.slice (some ⟨bl,0,none⟩) ts2.length cap,.list 13 (ts2.map Fr.fiZ))::[(v3,.list 6 (Tr.exDs ls0)),(v4,.list 10 (tyDs el0)),(v5,.list 10 (tyDs ba0)),(v6,.list 13 (fdDs fs0)),(v7,.list 13 (fdDs ps0)),(v8,.list 10 (tyDs rs0))])))
        case atStart=>exact⟨0,Nat.zero_le _,rfl,rfl,HF⟩
        case round =>
         clear HF
         obtain⟨i,hi,hg3,rfl,HF⟩:=hrel
         have HG3:=hid hg3
         clear hg3
         by_cases hlt:i<ts2.length
         ·have hii:(i:Int)<(ts2.length:Int):=by omega
          have HAt:=hid (show(ts2.map Fr.fiZ)[i]?=some (Fr.paZ ts2[i].2 ts2[i].1)by rw [List.getElem?_map,List.getElem?_eq_getElem hlt];rfl)
          go_wp2_with (first
           | ((with_reducible refine is_load (dst:=some 101) (T:=126) ?_);(refine wpList_plain rfl (fun K hK=>?_));go_loud (refine Fr.ow_loadAt 0 HF.out rfl rfl i rfl (by first|rfl|simp|omega) HAt.out Tryz.underlying126 rfl tyV rfl ?_);intro cs1 hrow;obtain⟨c5,c6,c7,c8,c9,c10,rfl,o5,o6,o7,o8,o9,o10⟩:=Fr.open_paZ hrow;refine hK _ _ ?_;clear hK K hrow)
           | ((with_reducible refine is_alloc (dst:=some 18) ?_);(first|(refine wl_alloc HF.out tyV ?_));intro b18 W1 HF1;replace HF:=hid HF1;clear HF1)
           | ((with_reducible refine is_store (T:=126) ?_);(refine wl_store 0 HF.out tyV rfl rfl rfl rfl rfl (z4 rfl) (by repeat' (first|exact z3 _|refine z2 ?_ ?_|rfl|assumption)) ?_);intro W1 HF1;simp only [setL,z0,z1]at HF1;replace HF:=hid HF1;clear HF1)
           | (first|((with_reducible refine is_load (T:=123) ?_);(first|(refine Fr.wl_load 1 HF.out rfl rfl Tryz.underlying123 rfl tyT rfl ?_))))
           | (first|((with_reducible refine is_store (T:=123) ?_);(first|(refine wl_store 0 HF.out tyT rfl rfl rfl rfl rfl (z4 rfl) oT ?_));intro W1 HF1;simp only [setL,z0,z1]at HF1;replace HF:=hid HF1;clear HF1))
           | (first|((with_reducible refine is_load (T:=126) ?_);(first|(refine Fr.wl_load 0 HF.out rfl rfl Tryz.underlying126 rfl tyV rfl ?_))))
           | ((with_reducible refine Fr.is_lit (dst:=some 106) ?_);(refine Fr.wl_lit1 HF.out Tryz.underlying26 tyV (by simp) (by simp) rfl rfl rfl (Fr.fiF tb ts2[i]) ?_ ?_);(focus(simp only [Fr.fiF,Fr.paF,Tr.fdD,HD.out,List.cons_append,List.nil_append];(repeat' (first|exact Da.row_nil _ _|exact Da.Is.int _|exact Da.Is.str _|exact Da.Is.bool _|(refine HF.out.isM ?_;simp;done)|refine Da.row_cons ?_ ?_))));intro b1 W1 HF1;replace HF:=hid HF1;clear HF1)
           | ((with_reducible refine Fr.is_append ?_);(refine Fr.wl_append 5 0 HF.out Tryz.underlying26 tyV (by simp) (by simp) rfl rfl rfl rfl rfl ?_ ?_);(focus(have h1:=HC2.out;simp only [List.length_append,List.length_map,List.length_take,List.length_cons,List.length_nil,Fr.fdDs_len];omega));intro v1 W1 HF1;simp only [setL,z0,z1]at HF1;replace HF:=hid HF1;clear HF1))
          replace HF:=hid (show Fr.PF w B bp en l4 W1 [.blk b16 [.int .i64 k0,.string ⟨m0.toArray⟩,.string ⟨n0.toArray⟩,v3,v4,v5,v6,v7,v8,.int .i64 p0],.blk b2 [.pointer (some ⟨bp,0,none⟩)],.row u4 120 9 (cs.map cnD),.row u5 125 13 (fdDs ts),.row v1 126 13 (fdDs acc.flatten++(ts2.take (i+1)).map (Fr.fiF tb))] ((.slice (some ⟨bl,0,none⟩) ts2.length cap,.list 13 (ts2.map Fr.fiZ))::[(v3,.list 6 (Tr.exDs ls0)),(v4,.list 10 (tyDs el0)),(v5,.list 10 (tyDs ba0)),(v6,.list 13 (fdDs fs0)),(v7,.list 13 (fdDs ps0)),(v8,.list 10 (tyDs rs0))])from by rw [Fr.take_map_succ _ _ _ hlt,← List.append_assoc];exact HF.out.pick [1,2,3,4,5] [1,2,3,4,5,6,7] (by decide) (by simp) (by simp))
          go_roundg (ts2.length - (i+1))
          case rel=>exact⟨i+1,hlt,rfl,rfl,HF⟩
          case measure=>rw [HG3.out];omega
         ·obtain rfl:i=ts2.length:=by omega
          go_wp2_with (first
           | ((with_reducible refine is_load (T:=111) ?_);((refine wl_load1 1 HF.out rfl rfl Tryz.underlying111 rfl rfl ?_)))
           | (go_at_call 98;(with_reducible refine(skip_any _ B bp en _ _ HF.out.kp).mono ?_);rintro e W1 ⟨hr,⟨_,l5,v,hx,hps,rfl,rfl⟩|⟨q,hx,rfl⟩⟩;(focus((try simp only [hx,↓reduceIte,Fr.bB]at HX);replace HL:=hid (con_add (con_skip en _ _) hx HL.out);replace HF:=hid (Fr.PF.call HB.out HF.out hr hps);clear hr hps hx));rotate_left;(focus((try simp only [hx,↓reduceIte,Fr.bB]at HX);have HR:=hid (rd_trans HF.out.gr hr);clear hr hx));rotate_left))
          all_goals first|(exact⟨rfl,HR.out,.inr ⟨_,Fr.wh_no HOO.out HYY.out.1 HNm.out (HZZ.out ▸ HX.out),rfl⟩⟩)|skip
          obtain⟨fu2,h1,h2,h3,h4⟩:=Fr.wh_okf HYY.out HNm.out (HZZ.out.symm.trans HX.out) (show l5.length<lc.length by have h1:=HL.out;have h2:=HLC.out;omega) (by simp only [List.length_map];have h1:=HL.out;have h2:=HA2.out;omega)
          go_roundg l5.length
          case rel=>exact⟨_,l5,fu2,rfl,hid (by have h9:=HF.out;rw [List.take_length]at h9;rw [List.flatten_append,List.flatten_cons,List.flatten_nil,List.append_nil,← Fr.fdDs_app,Tr.fdDs_map (ts2.map _),List.map_map];exact h9.pick [1,2,3,4] [] (by decide) (by simp) (by simp)),hid ⟨h1,h2,h3,h4⟩⟩
          case measure=>rw [HGG.out];have h1:=HL.out;have h2:=HLC.out;omega
       | true =>
        have HG:=hid hg
        clear hg
        have HM:=hid (show lc2.length≤l.length by have h1:=HY.out.2.2.1;have h2:=HMO.out;omega)
        have HL:=hid (show lc2.length+0≤lc2.length from Nat.le_refl _)
        obtain⟨Z,hZ⟩:∃ Z,Z=Tr.defT en outer lc2:=⟨_,rfl⟩
        have HZ:=hid hZ
        have HO:=HX
        replace HX:=hid hZ
        have HAc:=hid HY.out.2.2.2.1
        clear hZ
        go_wp2_with (first
         | ((with_reducible refine is_load (T:=111) ?_);(first|(refine wl_load1 1 HF.out rfl rfl Tryz.underlying111 rfl rfl ?_)|(refine wl_load1 2 HF.out rfl rfl Tryz.underlying111 rfl rfl ?_)))
         | (go_at_call 146;(with_reducible refine(def_any _ B bp en _ outer HF.out.kp).mono ?_);rintro e W1 ⟨hr,⟨t,l1,v,hx,hps,rfl,hv⟩|⟨q,hx,rfl⟩⟩;(focus(obtain⟨⟨kd,t2,n2,q2⟩,ex⟩:=t;obtain rfl:v=.tuple #[.agg #[.int .i64 kd,.string ⟨t2.toArray⟩,.int .i64 n2,.int .i64 q2],.bool ex]:=hv;(try simp only [hx,↓reduceIte,Fr.bB]at HX);replace HL:=hid (con_add (Tr.con_def en _ _) hx HL.out);replace HF:=hid (Fr.PF.call HB.out HF.out hr hps);clear hr hps hx));rotate_left;(focus((try simp only [hx,↓reduceIte,Fr.bB]at HX);have HR:=hid (rd_trans HF.out.gr hr);clear hr hx));rotate_left)
         | ((with_reducible refine is_alloc (dst:=some 14) ?_);(first|(refine wl_alloc HF.out tyTok ?_));intro b14 W1 HF1;replace HF:=hid HF1;clear HF1)
         | (first|((with_reducible refine is_store (T:=40) ?_);(first|(refine wl_store 0 HF.out tyTok rfl rfl rfl rfl rfl (z4 rfl) oT ?_));intro W1 HF1;simp only [setL,z0,z1]at HF1;replace HF:=hid HF1;clear HF1))
         | (first|((with_reducible refine is_load (T:=9) ?_);(first|(refine wl_load1 0 HF.out rfl rfl Tryz.underlying9 rfl rfl ?_)))|((with_reducible refine is_load (T:=3) ?_);(first|(refine wl_load1 0 HF.out rfl rfl Tryz.underlying3 rfl rfl ?_))))
         | ((with_reducible refine Fr.is_lit ?_);(refine Fr.wl_lit1 HF.out Tryz.underlying26 tyV (by simp) (by simp) rfl rfl rfl (Fr.fiZ ((kd,t2,n2,q2),ex)) ?_ ?_);(focus(simp only [Fr.fiZ,Fr.paZ];(repeat' (first|exact Da.row_nil _ _|exact Da.Is.int _|exact Da.Is.str _|exact Da.Is.bool _|exact Fr.is_nil _|refine Da.row_cons ?_ ?_))));intro b W1 HF1;replace HF:=hid HF1;clear HF1)
         | ((with_reducible refine Fr.is_append ?_);(refine Fr.wl_append 1 0 HF.out Tryz.underlying26 tyV (by simp) (by simp) rfl rfl rfl rfl rfl ?_ ?_);(focus(have:=HAc.out;simp;omega));intro v1 W1 HF1;simp only [setL,z0,z1]at HF1;replace HF:=hid HF1;clear HF1)
         | (go_at_call 100;(with_reducible refine(took_any _ B bp en _ [44] HF.out.kp).mono ?_);rintro e W1 ⟨rfl,hr,hps⟩;have HL0:=HL;replace HL:=hid (Fr.took_add [44] HL.out);replace HF:=hid (Fr.PF.call HB.out HF.out hr hps);clear hr hps))
        all_goals first|(exact⟨rfl,HR.out,.inr ⟨_,Fr.wh_no HOO.out HYY.out.1 HNm.out (HZZ.out ▸ Fr.loop_no HO.out HY.out.1 (HZ.out ▸ HX.out)),rfl⟩⟩)|skip
        obtain⟨fu',h1,h2,h3,h4,h5⟩:=Fr.loop_ok (w:=Tr.comma) HY.out (HZ.out.symm.trans HX.out) (show l1.length<lc2.length by have:=HL0.out;omega)
        go_roundg (Tr.meas (Tr.isS [44] l1) (Tr.took [44] l1).2)
        case rel=>exact⟨_,_,_,fu',rfl,rfl,hid (by rw [List.map_append,List.map_cons,List.map_nil];exact HF.out.pick [1,2,3,4,5] [] (by decide) (by simp) (by simp)),hid ⟨h1,h2,h3,h4,h5⟩⟩
        case measure=>rw [HG.out];exact Tr.meas_lt (show l1.length<lc2.length by have:=HL0.out;omega)
     ·have HXe:=hid (show X=.ok ⟨cs,ts,acc.flatten⟩ lc by rw [HOO.out,HYY.out.1,Fr.whx_end HNm.out];rfl)
      go_wp2
      refine bodyPost_ret (v:=.tuple #[u4,u5,u6]) (by simp [results,Tryz.results101,go_sem]) rfl ?_
      have HV:=((HF.out.close (k:=1) rfl).close (k:=2) rfl).close (k:=3) rfl
      exact⟨Fr.PF.rd HF.out,.inl ⟨_,_,_,HXe.out,Fr.PF.ps HF.out,rfl,_,_,_,rfl,HV.out 2 rfl,HV.out 1 rfl,HV.out 0 rfl⟩⟩
   ·skip
    refine bodyPost_ret (v:=.tuple #[u4,u5,.slice none 0 0]) (by simp [results,Tryz.results101,go_sem]) rfl ?_
    have HV:=((HF.out.close (k:=1) rfl).close (k:=2) rfl).close (k:=3) rfl
    exact⟨Fr.PF.rd HF.out,.inl ⟨_,_,_,HX.out,Fr.PF.ps HF.out,rfl,_,_,_,rfl,HV.out 2 rfl,HV.out 1 rfl,HV.out 0 rfl⟩⟩
end Go.Proofs.YtlhmkfcbldghfaaGreatDoor
