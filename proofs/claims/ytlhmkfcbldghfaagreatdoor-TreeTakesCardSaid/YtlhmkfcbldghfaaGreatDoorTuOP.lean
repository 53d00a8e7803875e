/- The walk of tree's parser's proc. Conditions: the parser's block is as it is made;shorter texts are read as they should be. -/
import Derived.Test.YtlhmkfcbldghfaaGreatDoorTuLM
import Derived.Test.YtlhmkfcbldghfaaGreatDoorTuIb
import Derived.Test.YtlhmkfcbldghfaaGreatDoorTrA
namespace Go.Proofs.YtlhmkfcbldghfaaGreatDoor
set_option linter.all false
open Go.Lib (hid)
set_option maxRecDepth 1000000
set_option maxHeartbeats 16000000
open Go.RowKit
open Fr (bind_ok con_add is_alloc is_load is_nil is_store setL tyI tyM tyPr tyTok wE wT wl_alloc wl_load1 wl_store wl_store1 zM zP)
open Tr (cnD con_skip fdDs imD prD rd_trans)
namespace Fr
abbrev VPr(lo:Nat)(w:World)(v:Value)(p:Tr.Pr):Prop:=VRow lo w v (prD p)
open Tr
def prE(en:Int)(nm:List UInt8)(ex:Bool)(p:Int)(f:List (List UInt8 × Bool × Ty × Int) × List Ty)(d:De)(s:List St)(rs:List Ex)(l7:List Tok):Tr.R Pr:=(endsP en nm l7).bind fun _ l8 => .ok ⟨nm,ex,f.1,f.2,d,s,rs,p⟩ l8
def prC(en:Int)(r:Rc)(nm:List UInt8)(ex:Bool)(p:Int)(f:List (List UInt8 × Bool × Ty × Int) × List Ty)(d:De)(s:List St)(l6:List Tok):Tr.R Pr:=(if isS [82,69,84,85,82,78] l6 then(exprP en r l6.tail).bind fun e l7 => .ok [e] l7 else .ok [] l6).bind fun rs l7=>prE en nm ex p f d s rs l7
def prB(en:Int)(r:Rc)(nm:List UInt8)(ex:Bool)(p:Int)(f:List (List UInt8 × Bool × Ty × Int) × List Ty)(l3:List Tok):Tr.R Pr:=(skip en [59] l3).bind fun _ l4=>(declsP en r false l4).bind fun d l5=>(if isS [66,69,71,73,78] l5 then statsP en r l5.tail else .ok [] l5).bind fun s l6=>prC en r nm ex p f d s l6
theorem is_val(w:World)(B bp:Nat)(en:Int)(l:List Tok)(tx:List UInt8)(hp:PS w B bp en l) :
  Calls Tryz.prog 102 #[.pointer (some ⟨bp,0,none⟩),.string ⟨tx.toArray⟩] w fun e w'=>Below w.heap.size w w'∧e=.returned (.bool (isS tx l)):=
 (is_any w B bp en l tx hp).mono fun e w' ⟨he,g,hw⟩=>⟨by rw [hw];exact more_below w g,he⟩
end Fr
theorem proc_any(en:Int)(n:Nat)(r:Tr.Rc)(hC:Fr.CR en n r)(hQ:Fr.CQ en)(hE:Fr.CV 147 en n (Tr.exprP en r) Tr.VEx)(hSs:Fr.CV 104 en n (Tr.statsP en r) Fr.VSts):Fr.CV 103 en n (Tr.procP en r) Fr.VPr:=by
 intro w B bp l hl hp
 obtain⟨X,hX⟩:∃ X,X=Tr.procP en r l:=⟨_,rfl⟩
 rw [show Tr.procP en r l=X from hX.symm]
 unfold Tr.procP at hX
 have HX:=hid hX
 have HB:RowKit.Hid (B≤w.heap.size):=hp.size
 have HF:=hid (Fr.pf_start hp)
 have HL:=hid (show l.length+0≤l.length from Nat.le_refl _)
 have HN:=hid hl
 have HC:=hid hC
 have HQ:=hid hQ
 have HE:=hid hE
 have HSs:=hid hSs
 clear hC hQ hE hSs
 have hfl0:=Fr.fld_tok0
 have hfl1:=Fr.fld_tok1
 have hfl3:=Fr.fld_tok3
 clear hX hp hl
 go_enter Tryz.func103,Tryz.ntmps103
 go_upto_if 23 with(first
  | ((with_reducible refine is_alloc (dst:=some 2) ?_);(first|(refine wl_alloc HF.out tyPr ?_));intro b2 W1 HF1;replace HF:=hid HF1;clear HF1)
  | ((with_reducible refine is_alloc (dst:=some 3) ?_);(first|(refine wl_alloc HF.out tyPr ?_));intro b3 W1 HF1;replace HF:=hid HF1;clear HF1)
  | ((with_reducible refine is_alloc (dst:=some 4) ?_);(first|(refine wl_alloc HF.out tyTok ?_));intro b4 W1 HF1;replace HF:=hid HF1;clear HF1)
  | (first|((with_reducible refine is_store (T:=67) ?_);(first|(refine wl_store 0 HF.out tyPr rfl rfl rfl rfl rfl (z4 rfl) oT ?_));intro W1 HF1;simp only [setL,z0,z1]at HF1;replace HF:=hid HF1;clear HF1)|((with_reducible refine is_store (T:=40) ?_);(first|(refine wl_store 0 HF.out tyTok rfl rfl rfl rfl rfl (z4 rfl) oT ?_));intro W1 HF1;simp only [setL,z0,z1]at HF1;replace HF:=hid HF1;clear HF1))
  | (first|((with_reducible refine is_store (T:=9) ?_);(first|((refine wl_store1 1 HF.out Fr.tyStr rfl rfl rfl rfl rfl ?_ ?_);(focus(rfl))));intro W1 HF1;simp only [setL,z0,z1]at HF1;replace HF:=hid HF1;clear HF1)|((with_reducible refine is_store (T:=4) ?_);(first|((refine wl_store1 1 HF.out Fr.tyBool rfl rfl rfl rfl rfl ?_ ?_);(focus(rfl))));intro W1 HF1;simp only [setL,z0,z1]at HF1;replace HF:=hid HF1;clear HF1))
  | (((with_reducible refine is_load (T:=9) ?_);(first|(refine wl_load1 0 HF.out rfl rfl Tryz.underlying9 rfl rfl ?_))))
  | (go_at_call 97;(with_reducible refine(Fr.peek_split _ B bp en _ HF.out.kp).mono ?_);rintro e W1 ⟨hb,kd,t2,n2,q,hpk,hq,rfl,-⟩;(try simp only [hq,↓reduceIte,Fr.bB]at HX);replace HF:=hid (HF.out.below hb);clear hb hpk hq)
  | (go_at_call 98;(with_reducible refine(skip_any _ B bp en _ _ HF.out.kp).mono ?_);rintro e W1 ⟨hr,⟨_,l1,v,hx,hps,rfl,rfl⟩|⟨q,hx,rfl⟩⟩;(focus((try simp only [hx,↓reduceIte,Fr.bB]at HX);replace HL:=hid (con_add (con_skip en _ _) hx HL.out);replace HF:=hid (Fr.PF.call HB.out HF.out hr hps);clear hr hps hx));rotate_left;(focus((try simp only [hx,↓reduceIte,Fr.bB]at HX);have HR:=hid (rd_trans HF.out.gr hr);clear hr hx));rotate_left)
  | (go_at_call 146;(with_reducible refine(def_any _ B bp en _ true HF.out.kp).mono ?_);rintro e W1 ⟨hr,⟨t,l1,v,hx,hps,rfl,hv⟩|⟨q,hx,rfl⟩⟩;(focus(obtain⟨⟨kd,nm,n2,q2⟩,ex⟩:=t;obtain rfl:v=.tuple #[.agg #[.int .i64 kd,.string ⟨nm.toArray⟩,.int .i64 n2,.int .i64 q2],.bool ex]:=hv;(try simp only [hx,↓reduceIte,Fr.bB]at HX);replace HL:=hid (con_add (Tr.con_def en _ _) hx HL.out);replace HF:=hid (Fr.PF.call HB.out HF.out hr hps);clear hr hps hx));rotate_left;(focus((try simp only [hx,↓reduceIte,Fr.bB]at HX);have HR:=hid (rd_trans HF.out.gr hr);clear hr hx));rotate_left)
  | (go_at_call 102;(with_reducible refine(Fr.is_val _ B bp en _ [40] HF.out.kp).mono ?_);rintro e W1 ⟨hb,rfl⟩;replace HF:=hid (HF.out.below hb);clear hb))
 all_goals first|(exact⟨rfl,HR.out,.inr ⟨_,HX.out,rfl⟩⟩)|skip
 go_cut []from 23 to 57 (fun wc=>∃(ff:List (List UInt8 × Bool × Tr.Ty × Int) × List Tr.Ty) (l3:List Tr.Tok) (fa fb:Value),RowKit.Hid (X=Fr.prB en r nm ex q ff l3)∧RowKit.Hid (l3.length+(0+1)≤l.length)∧RowKit.Hid (Fr.PF w B bp en l3 wc [.blk b3 [.string ⟨nm.toArray⟩,.bool ex,fa,fb,.slice none 0 0,.slice none 0 0,.slice none 0 0,.slice none 0 0,.slice none 0 0,.int .i64 q],.blk b2 zP] [(fa,.list 13 (fdDs ff.1)),(fb,.list 10 (Tr.tyDs ff.2))]))
 case first =>
  replace HF:=hid (HF.out.pick [1,2] [] (by decide) (by simp) (by simp))
  cases hs:Tr.isS [40] l1 with
  | false =>
   have HX1:=HX.out
   simp only [hs,↓reduceIte,Bool.false_eq_true,bind_ok]at HX1
   replace HX:=hid (show X=Fr.prB en r nm ex q ([],[]) l1 from HX1)
   clear HX1 hs
   go_wp2
   go_meet
   case rel =>
    have H1:=(HF.out.data (v:=.slice none 0 0) (d:=.list 10 []) (m:=W1.heap.size) (is_nil _) HF.out.size (fun i r b hi hb=>(HF.out.fpl hi hb).2))
    exact⟨([],[]),l1,_,_,HX,hid (by have:=HL.out;omega),hid ((H1.data (v:=.slice none 0 0) (d:=.list 13 []) (m:=W1.heap.size) (is_nil _) H1.size (fun i r b hi hb=>(H1.fpl hi hb).2)).pick [0,1] [0,1] (by decide) (by simp) (by simp))⟩
  | true =>
   have HX1:=HX.out
   simp only [hs,↓reduceIte]at HX1
   replace HX:=hid HX1
   clear HX1 hs
   go_wp2_with (first
    | (go_at_call 149;(with_reducible refine(formals_any en n r HC.out HQ.out _ B bp _ (by have h1:=HL.out;have h2:=HN.out;(try have h3:=HM.out);omega) HF.out.kp).mono ?_);rintro e W1 ⟨hr,⟨ff,l1,v,hx,hps,rfl,hV⟩|⟨q,hx,rfl⟩⟩;(focus(obtain⟨fa,fb,rfl,hd0,hd1⟩:=hV;(try simp only [hx,↓reduceIte,Fr.bB]at HX);replace HL:=hid (con_add (Tr.con_formals en HC.out.ce.rg _) hx HL.out);have HF2:=Fr.PF.call HB.out HF.out hr hps;replace HF2:=Fr.Fm.since HF.out HF2 hd1;replace HF2:=Fr.Fm.since HF.out HF2 hd0;replace HF:=hid HF2;clear HF2 hr hps hx hd0 hd1));rotate_left;(focus((try simp only [hx,↓reduceIte,Fr.bB]at HX);have HR:=hid (rd_trans HF.out.gr hr);clear hr hx));rotate_left)
    | (first|((with_reducible refine is_store (T:=64) ?_);(first|((refine wl_store1 0 HF.out Fr.tySPa rfl rfl rfl rfl rfl ?_ ?_);(focus(exact(HF.out.da 0 _ _ rfl).one))));intro W1 HF1;simp only [setL,z0,z1]at HF1;replace HF:=hid HF1;clear HF1)|((with_reducible refine is_store (T:=65) ?_);(first|((refine wl_store1 0 HF.out Fr.tyST rfl rfl rfl rfl rfl ?_ ?_);(focus(exact(HF.out.da 1 _ _ rfl).one))));intro W1 HF1;simp only [setL,z0,z1]at HF1;replace HF:=hid HF1;clear HF1)))
   all_goals first|(exact⟨rfl,HR.out,.inr ⟨_,HX.out,rfl⟩⟩)|skip
   go_meet
   case rel=>exact⟨ff,l1,_,_,HX,hid (by have:=HL.out;omega),HF⟩
 case rest =>
  clear HF HX HL
  obtain⟨ff,l3,fa,fb,HX,HL,HF⟩:=hcut
  have HX1:=HX.out
  unfold Fr.prB at HX1
  replace HX:=hid HX1
  clear HX1
  go_upto_if 43 with(first
   | (go_at_call 98;(with_reducible refine(skip_any _ B bp en _ _ HF.out.kp).mono ?_);rintro e W1 ⟨hr,⟨_,l1,v,hx,hps,rfl,rfl⟩|⟨q,hx,rfl⟩⟩;(focus((try simp only [hx,↓reduceIte,Fr.bB]at HX);replace HL:=hid (con_add (con_skip en _ _) hx HL.out);replace HF:=hid (Fr.PF.call HB.out HF.out hr hps);clear hr hps hx));rotate_left;(focus((try simp only [hx,↓reduceIte,Fr.bB]at HX);have HR:=hid (rd_trans HF.out.gr hr);clear hr hx));rotate_left)
   | (go_at_call 101;(with_reducible refine(decls_any en n r HC.out HQ.out HE.out false _ B bp _ (by have h1:=HL.out;have h2:=HN.out;(try have h3:=HM.out);omega) HF.out.kp).mono ?_);rintro e W1 ⟨hr,⟨dd,l1,v,hx,hps,rfl,hV⟩|⟨q,hx,rfl⟩⟩;(focus(obtain⟨da,db,dc,rfl,hd0,hd1,hd2⟩:=hV;(try simp only [hx,↓reduceIte,Fr.bB]at HX);replace HL:=hid (Fr.suf_add (Tr.suf_decls en HC.out.ce.rg _ _) hx HL.out);have HF2:=Fr.PF.call HB.out HF.out hr hps;replace HF2:=Fr.Fm.since HF.out HF2 hd2;replace HF2:=Fr.Fm.since HF.out HF2 hd1;replace HF2:=Fr.Fm.since HF.out HF2 hd0;replace HF:=hid HF2;clear HF2 hr hps hx hd0 hd1 hd2));rotate_left;(focus((try simp only [hx,↓reduceIte,Fr.bB]at HX);have HR:=hid (rd_trans HF.out.gr hr);clear hr hx));rotate_left)
   | (first|((with_reducible refine is_store (T:=24) ?_);(first|((refine wl_store1 0 HF.out Fr.tySC rfl rfl rfl rfl rfl ?_ ?_);(focus(exact(HF.out.da 0 _ _ rfl).one))));intro W1 HF1;simp only [setL,z0,z1]at HF1;replace HF:=hid HF1;clear HF1)|((with_reducible refine is_store (T:=25) ?_);(first|((refine wl_store1 0 HF.out Fr.tySTy rfl rfl rfl rfl rfl ?_ ?_);(focus(exact(HF.out.da 1 _ _ rfl).one))));intro W1 HF1;simp only [setL,z0,z1]at HF1;replace HF:=hid HF1;clear HF1)|((with_reducible refine is_store (T:=26) ?_);(first|((refine wl_store1 0 HF.out Fr.tySV rfl rfl rfl rfl rfl ?_ ?_);(focus(exact(HF.out.da 2 _ _ rfl).one))));intro W1 HF1;simp only [setL,z0,z1]at HF1;replace HF:=hid HF1;clear HF1))
   | (go_at_call 100;(with_reducible refine(took_any _ B bp en _ [66,69,71,73,78] HF.out.kp).mono ?_);rintro e W1 ⟨rfl,hr,hps⟩;replace HL:=hid (Fr.took_add [66,69,71,73,78] HL.out);replace HF:=hid (Fr.PF.call HB.out HF.out hr hps);clear hr hps))
  all_goals first|(exact⟨rfl,HR.out,.inr ⟨_,HX.out,rfl⟩⟩)|skip
  go_cut []from 23 to 57 (fun wc=>∃(ss:List Tr.St) (l6:List Tr.Tok) (vs:Value),RowKit.Hid (X=Fr.prC en r nm ex q ff dd ss l6)∧RowKit.Hid (l6.length+(0+1)≤l.length)∧RowKit.Hid (Fr.PF w B bp en l6 wc [.blk b3 [.string ⟨nm.toArray⟩,.bool ex,fa,fb,da,db,dc,vs,.slice none 0 0,.int .i64 q],.blk b2 zP] [(fa,.list 13 (fdDs ff.1)),(fb,.list 10 (Tr.tyDs ff.2)),(da,.list 9 (dd.consts.map cnD)),(db,.list 13 (fdDs dd.types)),(dc,.list 13 (fdDs dd.vars)),(vs,.list 6 (Tr.stDs ss))]))
  case first =>
   cases hs:Tr.isS [66,69,71,73,78] l1 with
   | false =>
    have HX1:=HX.out
    simp only [hs,↓reduceIte,Bool.false_eq_true,bind_ok]at HX1
    replace HX:=hid HX1
    rw [Tr.took_no hs]at HF HL
    clear HX1 hs
    go_wp2
    go_meet
    case rel=>exact⟨[],l1,_,HX,hid (by have:=HL.out;omega),hid ((HF.out.data (v:=.slice none 0 0) (d:=.list 6 []) (m:=W1.heap.size) (is_nil _) HF.out.size (fun i r b hi hb=>(HF.out.fpl hi hb).2)).pick [0,1] [4,5,1,2,3,0] (by decide) (by simp) (by simp))⟩
   | true =>
    have HX1:=HX.out
    simp only [hs,↓reduceIte]at HX1
    replace HX:=hid HX1
    rw [Tr.took_ok hs]at HF HL
    clear HX1 hs
    go_wp2_with (first
     | (go_at_call 104;(with_reducible refine(HSs.out _ B bp _ (by have h1:=HL.out;have h2:=HN.out;(try have h3:=HM.out);omega) HF.out.kp).mono ?_);rintro e W1 ⟨hr,⟨ss,l1,v,hx,hps,rfl,hV⟩|⟨q,hx,rfl⟩⟩;(focus(have hd0:=hV;(try simp only [hx,↓reduceIte,Fr.bB]at HX);replace HL:=hid (Fr.suf_add (Tr.suf_stats en HC.out.ce.rg _) hx HL.out);have HF2:=Fr.PF.call HB.out HF.out hr hps;replace HF2:=Fr.Fm.since HF.out HF2 hd0;replace HF:=hid HF2;clear HF2 hr hps hx hd0));rotate_left;(focus((try simp only [hx,↓reduceIte,Fr.bB]at HX);have HR:=hid (rd_trans HF.out.gr hr);clear hr hx));rotate_left)
     | (first|((with_reducible refine is_store (T:=28) ?_);(first|((refine wl_store1 0 HF.out Fr.tySS rfl rfl rfl rfl rfl ?_ ?_);(focus(exact(HF.out.da 0 _ _ rfl).one))));intro W1 HF1;simp only [setL,z0,z1]at HF1;replace HF:=hid HF1;clear HF1)))
    all_goals first|(exact⟨rfl,HR.out,.inr ⟨_,HX.out,rfl⟩⟩)|skip
    go_meet
    case rel=>exact⟨ss,l1,_,HX,hid (by have:=HL.out;omega),hid (HF.out.pick [0,1] [4,5,1,2,3,0] (by decide) (by simp) (by simp))⟩
  case rest =>
   clear HF HX HL
   obtain⟨ss,l6,vs,HX,HL,HF⟩:=hcut
   have HX1:=HX.out
   unfold Fr.prC at HX1
   replace HX:=hid HX1
   clear HX1
   go_upto_if 48 with(first
    | (go_at_call 100;(with_reducible refine(took_any _ B bp en _ [82,69,84,85,82,78] HF.out.kp).mono ?_);rintro e W1 ⟨rfl,hr,hps⟩;replace HL:=hid (Fr.took_add [82,69,84,85,82,78] HL.out);replace HF:=hid (Fr.PF.call HB.out HF.out hr hps);clear hr hps))
   go_cut []from 23 to 57 (fun wc=>∃(rs:List Tr.Ex) (l7:List Tr.Tok) (vr:Value),RowKit.Hid (X=Fr.prE en nm ex q ff dd ss rs l7)∧RowKit.Hid (l7.length+(0+1)≤l.length)∧RowKit.Hid (Fr.PF w B bp en l7 wc [.blk b3 [.string ⟨nm.toArray⟩,.bool ex,fa,fb,da,db,dc,vs,vr,.int .i64 q],.blk b2 zP] [(fa,.list 13 (fdDs ff.1)),(fb,.list 10 (Tr.tyDs ff.2)),(da,.list 9 (dd.consts.map cnD)),(db,.list 13 (fdDs dd.types)),(dc,.list 13 (fdDs dd.vars)),(vs,.list 6 (Tr.stDs ss)),(vr,.list 6 (Tr.exDs rs))]))
   case first =>
    cases hs:Tr.isS [82,69,84,85,82,78] l6 with
    | false =>
     have HX1:=HX.out
     simp only [hs,↓reduceIte,Bool.false_eq_true,bind_ok]at HX1
     replace HX:=hid HX1
     rw [Tr.took_no hs]at HF HL
     clear HX1 hs
     go_wp2
     go_meet
     case rel=>exact⟨[],l6,_,HX,hid (by have:=HL.out;omega),hid ((HF.out.data (v:=.slice none 0 0) (d:=.list 6 []) (m:=W1.heap.size) (is_nil _) HF.out.size (fun i r b hi hb=>(HF.out.fpl hi hb).2)).pick [0,1] [1,2,3,4,5,6,0] (by decide) (by simp) (by simp))⟩
    | true =>
     have HX1:=HX.out
     simp only [hs,↓reduceIte]at HX1
     replace HX:=hid HX1
     rw [Tr.took_ok hs]at HF HL
     clear HX1 hs
     go_wp2_with (first
      | (go_at_call 147;(with_reducible refine(HE.out _ B bp _ (by have h1:=HL.out;have h2:=HN.out;(try have h3:=HM.out);omega) HF.out.kp).mono ?_);rintro e W1 ⟨hr,⟨ta,l1,v,hx,hps,rfl,hV⟩|⟨q,hx,rfl⟩⟩;(focus(obtain⟨k0,n0,tx0,op0,xs0,p0,va,rfl,hD,hdp,hd0⟩:=Fr.VEx.parts hV;(try simp only [hx,↓reduceIte,Fr.bB]at HX);replace HL:=hid (con_add (Tr.con_expr en HC.out.ce.rg _) hx HL.out);have HF2:=Fr.PF.call HB.out HF.out hr hps;replace HF2:=Fr.Fm.since HF.out HF2 hd0;replace HF:=hid HF2;clear HF2 hr hps hx hd0));rotate_left;(focus((try simp only [hx,↓reduceIte,Fr.bB]at HX);have HR:=hid (rd_trans HF.out.gr hr);clear hr hx));rotate_left)
      | ((with_reducible refine Fr.is_lit ?_);(refine Fr.wl_lit1 HF.out Tryz.underlying47 Fr.tyE (by simp) (by simp) rfl rfl rfl (Tr.exD ta) ?_ ?_);(focus(rw [hD];(repeat' (first|exact Da.row_nil _ _|exact Da.Is.int _|exact Da.Is.str _|exact HF.out.da 0 _ _ rfl|refine Da.row_cons ?_ ?_))));intro b W1 HF1;replace HF:=hid HF1;clear HF1)
      | (first|((with_reducible refine is_store (T:=47) ?_);(first|((refine wl_store1 0 HF.out Fr.tySE rfl rfl rfl rfl rfl ?_ ?_);(focus(rfl))));intro W1 HF1;simp only [setL,z0,z1]at HF1;replace HF:=hid HF1;clear HF1)))
     all_goals first|(exact⟨rfl,HR.out,.inr ⟨_,HX.out,rfl⟩⟩)|skip
     go_meet
     case rel=>exact⟨[ta],l1,_,HX,hid (by have:=HL.out;omega),hid (HF.out.pick [0,1] [2,3,4,5,6,7,0] (by decide) (by simp) (by simp))⟩
   case rest =>
    clear HF HX HL
    obtain⟨rs,l7,vr,HX,HL,HF⟩:=hcut
    have HX1:=HX.out
    unfold Fr.prE at HX1
    replace HX:=hid HX1
    clear HX1
    go_wp2_with (first
     | (go_at_call 105;(with_reducible refine(ends_any _ B bp en _ _ HF.out.kp).mono ?_);rintro e W1 ⟨hr,⟨_,l1,v,hx,hps,rfl,rfl⟩|⟨q,hx,rfl⟩⟩;(focus((try simp only [hx,↓reduceIte,Fr.bB]at HX);replace HL:=hid (con_add (Tr.con_ends en _ _) hx HL.out);replace HF:=hid (Fr.PF.call HB.out HF.out hr hps);clear hr hps hx));rotate_left;(focus((try simp only [hx,↓reduceIte,Fr.bB]at HX);have HR:=hid (rd_trans HF.out.gr hr);clear hr hx));rotate_left)
     | (first|((with_reducible refine is_load (T:=9) ?_);(first|(refine wl_load1 0 HF.out rfl rfl Tryz.underlying9 rfl rfl ?_)))|((with_reducible refine is_load (T:=67) ?_);(first|(refine Fr.wl_load 0 HF.out rfl rfl Tryz.underlying67 rfl tyPr rfl ?_))))
     | (first|((with_reducible refine is_store (T:=67) ?_);(first|(refine wl_store 1 HF.out tyPr rfl rfl rfl rfl rfl (z4 rfl) oT ?_));intro W1 HF1;simp only [setL,z0,z1]at HF1;replace HF:=hid HF1;clear HF1)))
    all_goals first|(exact⟨rfl,HR.out,.inr ⟨_,HX.out,rfl⟩⟩)|skip
    refine bodyPost_ret (Fr.fm_results 1 HF.out Tryz.results103 rfl rfl Tryz.underlying67 rfl tyPr rfl) rfl ?_
    refine⟨Fr.PF.rd HF.out,.inl ⟨_,_,_,HX.out,Fr.PF.ps HF.out,rfl,_,rfl,?_⟩⟩
    simp only [prD]
    (repeat' (first|exact Da.row_nil _ _|exact Da.Is.int _|exact Da.Is.str _|exact Da.Is.bool _|exact HF.out.out 0 rfl|exact HF.out.out 1 rfl|exact HF.out.out 2 rfl|exact HF.out.out 3 rfl|exact HF.out.out 4 rfl|exact HF.out.out 5 rfl|exact HF.out.out 6 rfl|refine Da.row_cons ?_ ?_))
namespace Fr
open Da Tr
def modB(en:Int)(r:Rc)(n0:Nat)(tm:List UInt8)(p:Int)(is:List (List UInt8 × List UInt8 × Int))(l5:List Tok):Tr.R Mo:=
 (declsP en r true l5).bind fun d l6=>(procsP en r (n0+1) l6).bind fun ps l7=>(if isS [66,69,71,73,78] l7 then statsP en r l7.tail else .ok [] l7).bind fun s l8 =>
 (endsP en tm l8).bind fun _ l9=>(skip en [46] l9).bind fun _ l10 => .ok ⟨tm,is,d,ps,s,p⟩ l10
def proc1(en:Int)(r:Rc)(l:List Tok):Tr.R Pr:=(procP en r l).bind fun p l1=>(skip en [59] l1).bind fun _ l2 => .ok p l2
def PrX(en:Int)(r:Rc)(acc:List Pr)(l:List Tok)(fu:Nat):Tr.R (List Pr):=(procsP en r (fu+1) l).bind fun ps l2 => .ok (acc++ps) l2
theorem prx_start(en:Int)(r:Rc)(l:List Tok)(n:Nat):procsP en r (n+1) l=PrX en r [] l n:=by
 unfold PrX
 cases procsP en r (n+1) l <;> rfl
theorem prx_end{en:Int}{r:Rc}{acc:List Pr}{l:List Tok}{fu:Nat}(h:isS [80,82,79,67,69,68,85,82,69] l=false):PrX en r acc l fu=.ok acc l:=by
 unfold PrX procsP
 simp [h,R.bind]
theorem prx_no{en:Int}{r:Rc}{acc:List Pr}{l:List Tok}{fu:Nat}{q:Int}(h:isS [80,82,79,67,69,68,85,82,69] l=true)(hF:proc1 en r l=.no q):PrX en r acc l fu=.no q:=by
 unfold proc1 at hF
 unfold PrX procsP
 rw [if_pos h]
 cases h1:procP en r l with
 | no q'=>rw [h1,bind_no]at hF;rw [bind_no,bind_no];simpa using hF
 | ok p l1 =>
  rw [h1,bind_ok]at hF
  rw [bind_ok]
  cases h2:skip en [59] l1 with
  | no q'=>rw [h2,bind_no]at hF;rw [bind_no,bind_no];simpa using hF
  | ok u l2=>rw [h2,bind_ok]at hF;cases hF
theorem prx_ok{en:Int}{r:Rc}{acc:List Pr}{l l2:List Tok}{fu:Nat}{a:Pr}(h:isS [80,82,79,67,69,68,85,82,69] l=true)(hF:proc1 en r l=.ok a l2)(hf:l.length≤fu)(hs:l2.length<l.length) :
  ∃ f2,PrX en r acc l fu=PrX en r (acc++[a]) l2 f2∧l2.length≤f2:=by
 obtain⟨f2,rfl⟩:∃ f2,fu=f2+1:=⟨fu - 1,by omega⟩
 refine⟨f2,?_,by omega⟩
 unfold proc1 at hF
 unfold PrX
 conv=>lhs;unfold procsP
 rw [if_pos h]
 cases h1:procP en r l with
 | no q'=>rw [h1,bind_no]at hF;cases hF
 | ok p l1 =>
  rw [h1,bind_ok]at hF
  rw [bind_ok]
  cases h2:skip en [59] l1 with
  | no q'=>rw [h2,bind_no]at hF;cases hF
  | ok u l3 =>
   rw [h2,bind_ok]at hF
   rw [bind_ok]
   cases hF
   cases procsP en r (f2+1) l2 with
   | no q=>rfl
   | ok ps l3=>simp [bind_ok]
theorem VPr.open{lo:Nat}{w:World}{v:Value}{t:Pr}(h:VPr lo w v t):∃(nm:ByteArray) (ex:Bool) (v2 v3 v4 v5 v6 v7 v8:Value) (d2 d3 d4 d5 d6 d7 d8:D) (p:Int),v=.agg #[.string nm,.bool ex,v2,v3,v4,v5,v6,v7,v8,.int .i64 p]∧prD t=[.str nm.data.toList,.bool ex,d2,d3,d4,d5,d6,d7,d8,.int p] ∧
  Is w (fun b=>lo≤b) v2 d2∧Is w (fun b=>lo≤b) v3 d3∧Is w (fun b=>lo≤b) v4 d4∧Is w (fun b=>lo≤b) v5 d5∧Is w (fun b=>lo≤b) v6 d6∧Is w (fun b=>lo≤b) v7 d7∧Is w (fun b=>lo≤b) v8 d8:=by
 obtain⟨cs,rfl,h⟩:=h
 unfold prD at h
 obtain⟨c0,_,rfl,h0,h⟩:=row_inv h
 obtain⟨c1,_,rfl,h1,h⟩:=row_inv h
 obtain⟨c2,_,rfl,h2,h⟩:=row_inv h
 obtain⟨c3,_,rfl,h3,h⟩:=row_inv h
 obtain⟨c4,_,rfl,h4,h⟩:=row_inv h
 obtain⟨c5,_,rfl,h5,h⟩:=row_inv h
 obtain⟨c6,_,rfl,h6,h⟩:=row_inv h
 obtain⟨c7,_,rfl,h7,h⟩:=row_inv h
 obtain⟨c8,_,rfl,h8,h⟩:=row_inv h
 obtain⟨c9,_,rfl,h9,h⟩:=row_inv h
 obtain rfl:=row_inv0 h
 obtain rfl:=is_str h0
 obtain rfl:=is_bool h1
 obtain rfl:=is_int h9
 exact⟨_,_,c2,c3,c4,c5,c6,c7,c8,_,_,_,_,_,_,_,_,rfl,by unfold prD;rfl,h2,h3,h4,h5,h6,h7,h8⟩
abbrev VMo(lo:Nat)(w:World)(v:Value)(m:Mo):Prop:=VRow lo w v (moD m)
theorem imD_snoc(xs:List (List UInt8 × List UInt8 × Int))(x:List UInt8 × List UInt8 × Int):(xs++[x]).map imD=xs.map imD++[imD x]:=by simp
theorem prD_snoc(xs:List Pr)(x:Pr):(xs++[x]).map prD=xs.map prD++[prD x]:=by simp
end Fr
theorem module_any(en:Int)(n:Nat)(r:Tr.Rc)(hC:Fr.CR en n r)(hQ:Fr.CQ en)(hE:Fr.CV 147 en n (Tr.exprP en r) Tr.VEx)(hSs:Fr.CV 104 en n (Tr.statsP en r) Fr.VSts):Fr.CV 58 en n (Tr.moduleP en r) Fr.VMo:=by
 intro w B bp l hl hp
 obtain⟨X,hX⟩:∃ X,X=Tr.moduleP en r l:=⟨_,rfl⟩
 rw [show Tr.moduleP en r l=X from hX.symm]
 unfold Tr.moduleP at hX
 have HX:=hid hX
 have HB:RowKit.Hid (B≤w.heap.size):=hp.size
 have HF:=hid (Fr.pf_start hp)
 have HL:=hid (show l.length+0≤l.length from Nat.le_refl _)
 have HN:=hid hl
 have HC:=hid hC
 have HQ:=hid hQ
 have HE:=hid hE
 have HSs0:=hid hSs
 clear hC hQ hE hSs
 have hfl0:=Fr.fld_tok0
 have hfl1:=Fr.fld_tok1
 have hfl3:=Fr.fld_tok3
 clear hX hp hl
 go_enter Tryz.func58,Tryz.ntmps58
 go_upto_if 20 with(first
  | ((with_reducible refine is_alloc (dst:=some 2) ?_);(first|(refine wl_alloc HF.out tyM ?_));intro b2 W1 HF1;replace HF:=hid HF1;clear HF1)
  | ((with_reducible refine is_alloc (dst:=some 3) ?_);(first|(refine wl_alloc HF.out tyM ?_));intro b3 W1 HF1;replace HF:=hid HF1;clear HF1)
  | (first|((with_reducible refine is_store (T:=30) ?_);(first|(refine wl_store 0 HF.out tyM rfl rfl rfl rfl rfl (z4 rfl) oT ?_));intro W1 HF1;simp only [setL,z0,z1]at HF1;replace HF:=hid HF1;clear HF1)|((with_reducible refine is_store (T:=9) ?_);(first|((refine wl_store1 0 HF.out Fr.tyStr rfl rfl rfl rfl rfl ?_ ?_);(focus(rfl))));intro W1 HF1;simp only [setL,z0,z1]at HF1;replace HF:=hid HF1;clear HF1))
  | (go_at_call 97;(with_reducible refine(Fr.peek_split _ B bp en _ HF.out.kp).mono ?_);rintro e W1 ⟨hb,kd,t2,n2,q2,hpk,hq,rfl,-⟩;(try simp only [hq,↓reduceIte,Fr.bB]at HX);replace HF:=hid (HF.out.below hb);clear hb hpk hq)
  | (go_at_call 98;(with_reducible refine(skip_any _ B bp en _ _ HF.out.kp).mono ?_);rintro e W1 ⟨hr,⟨_,l1,v,hx,hps,rfl,rfl⟩|⟨q,hx,rfl⟩⟩;(focus((try simp only [hx,↓reduceIte,Fr.bB]at HX);replace HL:=hid (con_add (con_skip en _ _) hx HL.out);replace HF:=hid (Fr.PF.call HB.out HF.out hr hps);clear hr hps hx));rotate_left;(focus((try simp only [hx,↓reduceIte,Fr.bB]at HX);have HR:=hid (rd_trans HF.out.gr hr);clear hr hx));rotate_left)
  | (go_at_call 99;(with_reducible refine(name_any _ B bp en _ HF.out.kp).mono ?_);rintro e W1 ⟨hr,⟨tt,l1,v,hx,hps,rfl,hv⟩|⟨q,hx,rfl⟩⟩;(focus(obtain⟨kdm,tm,nm,qm⟩:=tt;obtain rfl:v=.agg #[.int .i64 kdm,.string ⟨tm.toArray⟩,.int .i64 nm,.int .i64 qm]:=hv;(try simp only [hx,↓reduceIte,Fr.bB]at HX);replace HL:=hid (con_add (Tr.con_name en _) hx HL.out);replace HF:=hid (Fr.PF.call HB.out HF.out hr hps);clear hr hps hx));rotate_left;(focus((try simp only [hx,↓reduceIte,Fr.bB]at HX);have HR:=hid (rd_trans HF.out.gr hr);clear hr hx));rotate_left)
  | (go_at_call 100;(with_reducible refine(took_any _ B bp en _ [73,77,80,79,82,84] HF.out.kp).mono ?_);rintro e W1 ⟨rfl,hr,hps⟩;replace HL:=hid (Fr.took_add [73,77,80,79,82,84] HL.out);replace HF:=hid (Fr.PF.call HB.out HF.out hr hps);clear hr hps))
 all_goals first|(exact⟨rfl,HR.out,.inr ⟨_,HX.out,rfl⟩⟩)|skip
 go_cut []from 20 to 46 (fun wc=>∃(is:List (List UInt8 × List UInt8 × Int)) (l5:List Tr.Tok) (vi:Value),RowKit.Hid (X=Fr.modB en r l.length tm q2 is l5)∧RowKit.Hid (l5.length+(0+1)≤l.length)∧RowKit.Hid (Fr.PF w B bp en l5 wc [.blk b3 [.string ⟨tm.toArray⟩,vi,.slice none 0 0,.slice none 0 0,.slice none 0 0,.slice none 0 0,.slice none 0 0,.int .i64 q2],.row vi 63 3 (is.map imD),.blk b2 zM] []))
 case first =>
  cases hs:Tr.isS [73,77,80,79,82,84] l1 with
  | false =>
   have HX1:=HX.out
   simp only [hs,↓reduceIte,Bool.false_eq_true,bind_ok]at HX1
   replace HX:=hid (show X=Fr.modB en r l.length tm q2 [] l1 from HX1)
   rw [Tr.took_no hs]at HF HL
   clear HX1 hs
   go_wp2
   go_meet
   case rel=>exact⟨[],l1,_,HX,hid (by have:=HL.out;omega),hid ((HF.out.own 63 3).pick [1,0,2] [] (by decide) (by simp) (by simp))⟩
  | true =>
   have HX1:=HX.out
   simp only [hs,↓reduceIte]at HX1
   replace HX:=hid HX1
   rw [Tr.took_ok hs]at HF HL
   clear HX1 hs
   go_wp2
   obtain⟨Y,hY⟩:∃ Y,Y=Tr.manyC Tr.comma (Tr.importP en) (l.length+1) l1.tail:=⟨_,rfl⟩
   have HX1:=HX.out
   rw [← hY]at HX1
   replace HX:=hid (show X=(Y.bind fun is l4=>(Tr.skip en [59] l4).bind fun _ l5 => .ok is l5).bind fun is l5=>Fr.modB en r l.length tm q2 is l5 from HX1)
   clear HX1
   rw [Tr.loopx_start]at hY
   have hlen:=HF.out.kp.len
   have hle:l1.tail.length≤l.length:=by have:=HL.out;omega
   have HLt:=HL
   replace HL:=hid (show l1.tail.length+(0+1)≤l.length by have:=HLt.out;omega)
   replace HX:=hid (show X=Y.bind fun is l4=>(Tr.skip en [59] l4).bind fun _ l5=>Fr.modB en r l.length tm q2 is l5 by rw [HX.out];cases Y with|no q=>rfl|ok a l=>rw [bind_ok,bind_ok];cases Tr.skip en [59] l <;> rfl)
   have HY:=hid (show Y=Tr.LoopX Tr.comma (Tr.importP en) [] true l1.tail l.length∧l1.tail.length≤l.length∧l1.tail.length+(0+1)≤l.length∧([]:List (List UInt8 × List UInt8 × Int)).length+l1.tail.length≤6000∧(true=true∨([]:List (List UInt8 × List UInt8 × Int)) ≠ [])from⟨hY,hle,HL.out,by simpa using hlen,.inl rfl⟩)
   clear hY
   try simp only [Act.put,zA,z0,z1]
   go_loopg [4] (Tr.meas true l1.tail) (fun g v4 wr=>∃(acc:List (List UInt8 × List UInt8 × Int)) (more:Bool) (lc:List Tr.Tok) (fu:Nat) (vl:Value),g=Tr.meas more lc∧v4=.bool more∧RowKit.Hid (Fr.PF w B bp en lc wr [.blk b3 [.string ⟨tm.toArray⟩,vl,.slice none 0 0,.slice none 0 0,.slice none 0 0,.slice none 0 0,.slice none 0 0,.int .i64 q2],.row vl 63 3 (acc.map imD),.blk b2 zM] [])∧RowKit.Hid (Y=Tr.LoopX Tr.comma (Tr.importP en) acc more lc fu∧lc.length≤fu∧lc.length+(0+1)≤l.length∧acc.length+lc.length≤6000∧(more=true∨acc ≠ [])))
   case atStart=>exact⟨[],true,l1.tail,l.length,.slice none 0 0,rfl,rfl,hid ((HF.out.own 63 3).pick [1,0,2] [] (by decide) (by simp) (by simp)),HY⟩
   case round =>
    clear HF HY HL
    obtain⟨acc,more,lc,fu,vl,hg,hm,HF,HY⟩:=hrel
    subst hm
    cases more with
    | false =>
     have HX1:=HX.out
     rw [HY.out.1,Tr.loopx_end,bind_ok]at HX1
     replace HX:=hid HX1
     have HL:=hid HY.out.2.2.1
     clear HX1 hg HY
     go_wp2_with (first
      | (go_at_call 98;(with_reducible refine(skip_any _ B bp en _ _ HF.out.kp).mono ?_);rintro e W1 ⟨hr,⟨_,l1,v,hx,hps,rfl,rfl⟩|⟨q,hx,rfl⟩⟩;(focus((try simp only [hx,↓reduceIte,Fr.bB]at HX);replace HL:=hid (con_add (con_skip en _ _) hx HL.out);replace HF:=hid (Fr.PF.call HB.out HF.out hr hps);clear hr hps hx));rotate_left;(focus((try simp only [hx,↓reduceIte,Fr.bB]at HX);have HR:=hid (rd_trans HF.out.gr hr);clear hr hx));rotate_left))
     all_goals first|(exact⟨rfl,HR.out,.inr ⟨_,HX.out,rfl⟩⟩)|skip
     go_meet
     case rel=>exact⟨acc,l1,_,hid HX.out,hid (by have h1:=HL.out;omega),HF⟩
    | true =>
     have HG:=hid hg
     clear hg
     have HM:=hid (HY.out.2.2.1)
     have HL:=hid (show lc.length+0≤lc.length from Nat.le_refl _)
     obtain⟨Z,hZ⟩:∃ Z,Z=Tr.importP en lc:=⟨_,rfl⟩
     have HZ:=hid hZ
     unfold Tr.importP at hZ
     have HO:=HX
     replace HX:=hid hZ
     have HAc:=hid HY.out.2.2.2.1
     clear hZ
     have HT0:True:=trivial
     go_wp2_with (first
      | (go_at_call 99;(have _z:=HT1);(with_reducible refine(name_any _ B bp en _ HF.out.kp).mono ?_);rintro e W1 ⟨hr,⟨tt,l1,v,hx,hps,rfl,hv⟩|⟨q,hx,rfl⟩⟩;(focus(obtain⟨kd3,t3,n3,q3⟩:=tt;obtain rfl:v=.agg #[.int .i64 kd3,.string ⟨t3.toArray⟩,.int .i64 n3,.int .i64 q3]:=hv;(try simp only [hx,↓reduceIte,Fr.bB]at HX);replace HL:=hid (con_add (Tr.con_name en _) hx HL.out);replace HF:=hid (Fr.PF.call HB.out HF.out hr hps);clear hr hps hx));rotate_left;(focus((try simp only [hx,↓reduceIte,Fr.bB]at HX);have HR:=hid (rd_trans HF.out.gr hr);clear hr hx));rotate_left)
      | (go_at_call 99;(with_reducible refine(name_any _ B bp en _ HF.out.kp).mono ?_);rintro e W1 ⟨hr,⟨tt,l1,v,hx,hps,rfl,hv⟩|⟨q,hx,rfl⟩⟩;(focus(obtain⟨kdi,t2,n2,qi⟩:=tt;obtain rfl:v=.agg #[.int .i64 kdi,.string ⟨t2.toArray⟩,.int .i64 n2,.int .i64 qi]:=hv;(try simp only [hx,↓reduceIte,Fr.bB]at HX);replace HL:=hid (con_add (Tr.con_name en _) hx HL.out);replace HF:=hid (Fr.PF.call HB.out HF.out hr hps);clear hr hps hx;have HT1:True:=trivial));rotate_left;(focus((try simp only [hx,↓reduceIte,Fr.bB]at HX);have HR:=hid (rd_trans HF.out.gr hr);clear hr hx));rotate_left)
      | ((with_reducible refine is_alloc (dst:=some 5) ?_);(first|(refine wl_alloc HF.out tyTok ?_));intro b5 W1 HF1;replace HF:=hid HF1;clear HF1)
      | ((with_reducible refine is_alloc (dst:=some 6) ?_);(first|(refine wl_alloc HF.out tyI ?_));intro b6 W1 HF1;replace HF:=hid HF1;clear HF1)
      | (first|((with_reducible refine is_store (T:=40) ?_);(first|(refine wl_store 0 HF.out tyTok rfl rfl rfl rfl rfl (z4 rfl) oT ?_));intro W1 HF1;simp only [setL,z0,z1]at HF1;replace HF:=hid HF1;clear HF1)|((with_reducible refine is_store (T:=63) ?_);(first|(refine wl_store 0 HF.out tyI rfl rfl rfl rfl rfl (z4 rfl) oT ?_));intro W1 HF1;simp only [setL,z0,z1]at HF1;replace HF:=hid HF1;clear HF1)|((with_reducible refine is_store (T:=9) ?_);(first|((refine wl_store1 0 HF.out Fr.tyStr rfl rfl rfl rfl rfl ?_ ?_);(focus(rfl))));intro W1 HF1;simp only [setL,z0,z1]at HF1;replace HF:=hid HF1;clear HF1))
      | (first|((with_reducible refine is_store (T:=23) ?_);(first|((refine wl_store1 2 HF.out Fr.tySI rfl rfl rfl rfl rfl ?_ ?_);(focus(exact HF.out.rowOne 3 rfl))));intro W1 HF1;simp only [setL,z0,z1]at HF1;replace HF:=hid HF1;clear HF1))
      | (first|((with_reducible refine is_load (T:=9) ?_);(first|(refine wl_load1 0 HF.out rfl rfl Tryz.underlying9 rfl rfl ?_)))|((with_reducible refine is_load (T:=3) ?_);(first|(refine wl_load1 0 HF.out rfl rfl Tryz.underlying3 rfl rfl ?_))))
      | (first|((with_reducible refine is_load (T:=23) ?_);(first|(refine wl_load1 2 HF.out rfl rfl Tryz.underlying23 rfl rfl ?_))))
      | (first|((with_reducible refine is_load (T:=63) ?_);(first|(refine Fr.wl_load 0 HF.out rfl rfl Tryz.underlying63 rfl tyI rfl ?_))))
      | ((with_reducible refine Fr.is_lit ?_);(refine Fr.wl_lit1 HF.out Tryz.underlying23 tyI (by simp) (by simp) rfl rfl rfl (imD (t2,t3,qi)) ?_ ?_);(focus(simp only [imD];(repeat' (first|exact Da.row_nil _ _|exact Da.Is.int _|exact Da.Is.str _|refine Da.row_cons ?_ ?_))));intro b W1 HF1;replace HF:=hid HF1;clear HF1)
      | ((with_reducible refine Fr.is_lit ?_);(refine Fr.wl_lit1 HF.out Tryz.underlying23 tyI (by simp) (by simp) rfl rfl rfl (imD (t2,t2,qi)) ?_ ?_);(focus(simp only [imD];(repeat' (first|exact Da.row_nil _ _|exact Da.Is.int _|exact Da.Is.str _|refine Da.row_cons ?_ ?_))));intro b W1 HF1;replace HF:=hid HF1;clear HF1)
      | ((with_reducible refine Fr.is_append ?_);(refine Fr.wl_append 3 0 HF.out Tryz.underlying23 tyI (by simp) (by simp) rfl rfl rfl rfl rfl ?_ ?_);(focus(have:=HAc.out;simp;omega));intro v1 W1 HF1;simp only [setL,z0,z1]at HF1;replace HF:=hid HF1;clear HF1)
      | (go_at_call 100;(have _z:=HT0);clear HT0;(with_reducible refine(Fr.took_split _ B bp en _ _ HF.out.kp).mono ?_);rintro e W1 ⟨hr,⟨hs,rfl,hps⟩|⟨hs,rfl,hps⟩⟩;(focus((try simp only [hs,↓reduceIte,Fr.bB]at HX);replace HF:=hid (Fr.PF.call HB.out HF.out hr hps);replace HL:=hid (Fr.tail_add hs HL.out);clear hr hps hs));rotate_left;(focus((try simp only [hs,↓reduceIte,Fr.bB]at HX);replace HF:=hid (Fr.PF.call HB.out HF.out hr hps);clear hr hps hs));rotate_left)
      | (go_at_call 100;(with_reducible refine(took_any _ B bp en _ [44] HF.out.kp).mono ?_);rintro e W1 ⟨rfl,hr,hps⟩;have HL0:=HL;replace HL:=hid (Fr.took_add [44] HL.out);replace HF:=hid (Fr.PF.call HB.out HF.out hr hps);clear hr hps))
     all_goals first|(exact⟨rfl,HR.out,.inr ⟨_,Fr.loop_no HO.out HY.out.1 (HZ.out ▸ HX.out),rfl⟩⟩)|skip
     all_goals
      obtain⟨fu',h1,h2,h3,h4,h5⟩:=Fr.loop_ok (w:=Tr.comma) HY.out (HZ.out.symm.trans HX.out) (show l1.length<lc.length by have:=HL0.out;omega)
      go_roundg (Tr.meas (Tr.isS [44] l1) (Tr.took [44] l1).2)
      case rel=>exact⟨_,_,_,fu',_,rfl,rfl,hid (by rw [Fr.imD_snoc];exact HF.out.pick [2,3,4] [] (by decide) (by simp) (by simp)),hid ⟨h1,h2,h3,h4,h5⟩⟩
      case measure=>rw [HG.out];exact Tr.meas_lt (show l1.length<lc.length by have:=HL0.out;omega)
 case rest =>
  clear HF HX HL
  obtain⟨is,l5,vi,HX,HL,HF⟩:=hcut
  have HX1:=HX.out
  unfold Fr.modB at HX1
  replace HX:=hid HX1
  clear HX1
  replace HF:=hid ((HF.out.close (k:=1) rfl).pick [0,2] [0] (by decide) (by simp) (by simp))
  go_wp2_with (first
   | (go_at_call 101;(with_reducible refine(decls_any en n r HC.out HQ.out HE.out true _ B bp _ (by have h1:=HL.out;have h2:=HN.out;(try have h3:=HM.out);omega) HF.out.kp).mono ?_);rintro e W1 ⟨hr,⟨dd,l1,v,hx,hps,rfl,hV⟩|⟨q,hx,rfl⟩⟩;(focus(obtain⟨va,vb,vc,rfl,hd0,hd1,hd2⟩:=hV;(try simp only [hx,↓reduceIte,Fr.bB]at HX);replace HL:=hid (Fr.suf_add (Tr.suf_decls en HC.out.ce.rg _ _) hx HL.out);have HF2:=Fr.PF.call HB.out HF.out hr hps;replace HF2:=Fr.Fm.since HF.out HF2 hd2;replace HF2:=Fr.Fm.since HF.out HF2 hd1;replace HF2:=Fr.Fm.since HF.out HF2 hd0;replace HF:=hid HF2;clear HF2 hr hps hx hd0 hd1 hd2));rotate_left;(focus((try simp only [hx,↓reduceIte,Fr.bB]at HX);have HR:=hid (rd_trans HF.out.gr hr);clear hr hx));rotate_left)
   | (first|((with_reducible refine is_store (T:=24) ?_);(first|((refine wl_store1 0 HF.out Fr.tySC rfl rfl rfl rfl rfl ?_ ?_);(focus(exact(HF.out.da 0 _ _ rfl).one))));intro W1 HF1;simp only [setL,z0,z1]at HF1;replace HF:=hid HF1;clear HF1)|((with_reducible refine is_store (T:=25) ?_);(first|((refine wl_store1 0 HF.out Fr.tySTy rfl rfl rfl rfl rfl ?_ ?_);(focus(exact(HF.out.da 1 _ _ rfl).one))));intro W1 HF1;simp only [setL,z0,z1]at HF1;replace HF:=hid HF1;clear HF1)|((with_reducible refine is_store (T:=26) ?_);(first|((refine wl_store1 0 HF.out Fr.tySV rfl rfl rfl rfl rfl ?_ ?_);(focus(exact(HF.out.da 2 _ _ rfl).one))));intro W1 HF1;simp only [setL,z0,z1]at HF1;replace HF:=hid HF1;clear HF1)))
  all_goals first|(exact⟨rfl,HR.out,.inr ⟨_,HX.out,rfl⟩⟩)|skip
  obtain⟨Y,hY⟩:∃ Y,Y=Tr.procsP en r (l.length+1) l1:=⟨_,rfl⟩
  have HX1:=HX.out
  rw [← hY]at HX1
  replace HX:=hid HX1
  clear HX1
  rw [Fr.prx_start]at hY
  have hlen:=HF.out.kp.len
  have HY:=hid (show Y=Fr.PrX en r [] l1 l.length∧l1.length≤l.length∧l1.length+(0+1)≤l.length∧([]:List Tr.Pr).length+l1.length≤6000 from⟨hY,by have:=HL.out;omega,by have:=HL.out;omega,by simpa using hlen⟩)
  clear hY
  replace HF:=hid (show Fr.PF w B bp en l1 _ [.blk b3 [.string ⟨tm.toArray⟩,vi,va,vb,vc,(.slice none 0 0),.slice none 0 0,.int .i64 q2],.row (.slice none 0 0) 67 10 (([]:List Tr.Pr).map prD),.blk b2 zM] [(vi,.list 3 (is.map imD)),(va,.list 9 (dd.consts.map cnD)),(vb,.list 13 (fdDs dd.types)),(vc,.list 13 (fdDs dd.vars))]from(HF.out.own 67 10).pick [1,0,2] [3,0,1,2] (by decide) (by simp) (by simp))
  try simp only [Act.put,zA,z0,z1]
  go_loopg [57] l1.length (fun g _ wr=>∃(acc:List Tr.Pr) (lc:List Tr.Tok) (fu:Nat) (vl:Value),g=lc.length∧RowKit.Hid (Fr.PF w B bp en lc wr [.blk b3 [.string ⟨tm.toArray⟩,vi,va,vb,vc,vl,.slice none 0 0,.int .i64 q2],.row vl 67 10 (acc.map prD),.blk b2 zM] [(vi,.list 3 (is.map imD)),(va,.list 9 (dd.consts.map cnD)),(vb,.list 13 (fdDs dd.types)),(vc,.list 13 (fdDs dd.vars))])∧RowKit.Hid (Y=Fr.PrX en r acc lc fu∧lc.length≤fu∧lc.length+(0+1)≤l.length∧acc.length+lc.length≤6000))
  case atStart=>exact⟨[],l1,l.length,_,rfl,HF,HY⟩
  case round =>
   clear HF HY HL
   obtain⟨acc,lc,fu,vl,hg,HF,HY⟩:=hrel
   have HG:=hid hg
   have HM:=hid (HY.out.2.2.1)
   have HL:=hid (show lc.length+0≤lc.length from Nat.le_refl _)
   obtain⟨Z,hZ⟩:∃ Z,Z=Fr.proc1 en r lc:=⟨_,rfl⟩
   have HZ:=hid hZ
   unfold Fr.proc1 at hZ
   have HO:=HX
   replace HX:=hid hZ
   have HAc:=hid HY.out.2.2.2
   clear hZ hg
   go_wp2_with (first
    | (go_at_call 102;(with_reducible refine(Fr.is_split _ B bp en _ _ HF.out.kp).mono ?_);rintro e W1 ⟨hb,⟨hs,rfl⟩|⟨hs,rfl⟩⟩;(focus((try simp only [hs,↓reduceIte,Fr.bB]at HX);replace HF:=hid (HF.out.below hb);have HSs:=hid hs;clear hb hs));rotate_left;(focus((try simp only [hs,↓reduceIte,Fr.bB]at HX);replace HF:=hid (HF.out.below hb);have HSs:=hid hs;clear hb hs));rotate_left))
   ·skip
    replace HF:=hid HF.out.drew
    refine wp_region_G (UpTo 7 (fun X=>b3<X.heap.size∧X.cell? ⟨b3,5,none⟩=some vl)) 8 (by kernel_rfl) (by kernel_rfl) (fun _=>⟨HF.out.ltAt 0 rfl,HF.out.cellAt 0 rfl 5 rfl⟩) (fun _ hS=>?_)
    generalize World.drew _=W1 at HF hS ⊢
    refine Fr.tkM (n:=8) (is:=[0]) (k:=1) rfl (by kernel_rfl) hS ?_
    repeat(refine wT (v:=?_) rfl (by rfl) (fun X xb=>?_) ?_;rotate_left 1;(focus(go_simp;try with_reducible rfl));try simp only [Act.put,zA,z0,z1])
    refine wE fun hS=>?_
    refine Fr.tkB (n:=8) (is:=[1]) [[1]] (k:=1) rfl (by kernel_rfl) hS ?_
    repeat(refine wT (v:=?_) rfl (by rfl) (fun X xb=>?_) ?_;rotate_left 1;(focus(go_simp;try with_reducible rfl));try simp only [Act.put,zA,z0,z1])
    refine wE fun hS=>?_
    refine Fr.tkM (n:=8) (is:=[2]) (k:=1) rfl (by kernel_rfl) hS ?_
    repeat(refine wT (v:=?_) rfl (by rfl) (fun X xb=>?_) ?_;rotate_left 1;(focus(go_simp;try with_reducible rfl));try simp only [Act.put,zA,z0,z1])
    refine wE fun hS=>?_
    refine rd1 (i:=3) (by kernel_rfl) (.cons rfl (fun K hK=>?_) .nil)
    go_simp
    (go_at_call 103;(with_reducible refine(proc_any en n r HC.out HQ.out HE.out HSs0.out _ B bp _ (by have h1:=HL.out;have h2:=HN.out;(try have h3:=HM.out);omega) HF.out.kp).mono ?_);rintro e W1 ⟨hr,⟨pp,l1,v,hx,hps,rfl,hV⟩|⟨q,hx,rfl⟩⟩;(focus(obtain⟨pnm,pex,w2,w3,w4,w5,w6,w7,w8,d2,d3,d4,d5,d6,d7,d8,p0,rfl,hD,hd0,hd1,hd2,hd3,hd4,hd5,hd6⟩:=Fr.VPr.open hV;(try simp only [hx,↓reduceIte,Fr.bB]at HX);replace HL:=hid (con_add (Tr.con_proc en HC.out.ce.rg _) hx HL.out);have HF2:=Fr.PF.call HB.out HF.out hr hps;replace HF2:=Fr.Fm.since HF.out HF2 hd6;replace HF2:=Fr.Fm.since HF.out HF2 hd5;replace HF2:=Fr.Fm.since HF.out HF2 hd4;replace HF2:=Fr.Fm.since HF.out HF2 hd3;replace HF2:=Fr.Fm.since HF.out HF2 hd2;replace HF2:=Fr.Fm.since HF.out HF2 hd1;replace HF2:=Fr.Fm.since HF.out HF2 hd0;replace HF:=hid HF2;clear HF2 hr hps hx hd0 hd1 hd2 hd3 hd4 hd5 hd6));rotate_left;(focus((try simp only [hx,↓reduceIte,Fr.bB]at HX);have HR:=hid (rd_trans HF.out.gr hr);clear hr hx));rotate_left)
    rotate_left
    ·go_simp
     exact⟨rfl,HR.out,.inr ⟨_,(by rw [HO.out,HY.out.1,Fr.prx_no HSs.out (HZ.out ▸ HX.out)];rfl),rfl⟩⟩
    go_simp
    refine hK.out _ _ (fun _=>⟨HF.out.ltAt 0 rfl,HF.out.cellAt 0 rfl 5 rfl⟩) fun hS=>?_;clear hK K
    try simp only [Act.put,zA,z0,z1]
    refine rd1 (i:=4) (by kernel_rfl) (.cons rfl (fun K hK=>?_) .nil)
    refine(if_pos (by rfl)).mpr ?_
    refine Fr.ow_lit1 HF.out Tryz.underlying27 tyPr (by simp) (by simp) rfl rfl rfl rfl (row:=prD pp) ?_ ?_
    focus(rw [hD];(repeat' (first|exact Da.row_nil _ _|exact Da.Is.int _|exact Da.Is.str _|exact Da.Is.bool _|(refine HF.out.isM ?_;simp;done)|refine Da.row_cons ?_ ?_)))
    intro b1 W1 HF1
    replace HF:=hid HF1;clear HF1
    refine hK.out _ _ (fun _=>⟨HF.out.ltAt 0 rfl,HF.out.cellAt 0 rfl 5 rfl⟩) fun hS=>?_;clear hK K
    try simp only [Act.put,zA,z0,z1]
    refine rd1 (i:=5) (by kernel_rfl) (.cons rfl (fun K hK=>?_) .nil)
    refine(if_pos (by rfl)).mpr ?_
    refine Fr.ow_append 1 0 HF.out Tryz.underlying27 tyPr (by simp) (by simp) rfl rfl rfl rfl rfl rfl ?_ ?_
    focus(have:=HAc.out;have h2:=HL.out;simp;omega)
    intro v1 W1 HF1
    simp only [setL,z0,z1]at HF1;replace HF:=hid HF1;clear HF1
    refine hK.out _ _ (fun _=>⟨HF.out.ltAt 0 rfl,HF.out.cellAt 0 rfl 5 rfl⟩) fun hS=>?_;clear hK K
    try simp only [Act.put,zA,z0,z1]
    refine Fr.tkM (n:=8) (is:=[6]) (k:=1) rfl (by kernel_rfl) hS ?_
    repeat(refine wT (v:=?_) rfl (by rfl) (fun X xb=>?_) ?_;rotate_left 1;(focus(go_simp;try with_reducible rfl));try simp only [Act.put,zA,z0,z1])
    refine wE fun hS=>?_
    refine rd1 (i:=7) (by kernel_rfl) (.cons rfl (fun K hK=>?_) .nil)
    refine(if_pos (by rfl)).mpr ?_
    (first|((refine Fr.ow_store1 0 HF.out Fr.tySPr rfl rfl rfl rfl rfl rfl ?_ ?_);(focus(exact HF.out.rowOne 1 rfl))))
    intro W1 HF1
    simp only [setL,z0,z1]at HF1;replace HF:=hid HF1;clear HF1
    refine hK.out _ _ (fun h=>absurd h (by simp [Fr.setAll])) fun hS=>?_;clear hK K
    try simp only [Act.put,zA,z0,z1]
    refine wpAnyG_done (by kernel_rfl) ?_ _
    clear hS
    go_wp2_with (first
     | (go_at_call 98;(with_reducible refine(skip_any _ B bp en _ _ HF.out.kp).mono ?_);rintro e W1 ⟨hr,⟨_,l1,v,hx,hps,rfl,rfl⟩|⟨q,hx,rfl⟩⟩;(focus((try simp only [hx,↓reduceIte,Fr.bB]at HX);replace HL:=hid (con_add (con_skip en _ _) hx HL.out);replace HF:=hid (Fr.PF.call HB.out HF.out hr hps);clear hr hps hx));rotate_left;(focus((try simp only [hx,↓reduceIte,Fr.bB]at HX);have HR:=hid (rd_trans HF.out.gr hr);clear hr hx));rotate_left))
    all_goals first|(exact⟨rfl,HR.out,.inr ⟨_,(by rw [HO.out,HY.out.1,Fr.prx_no HSs.out (HZ.out ▸ HX.out)];rfl),rfl⟩⟩)|skip
    obtain⟨f2,h1,h2⟩:=Fr.prx_ok (acc:=acc) HSs.out (HZ.out.symm.trans HX.out) HY.out.2.1 (show l1.length<lc.length by have:=HL.out;omega)
    go_roundg l1.length
    case rel=>exact⟨_,l1,f2,_,rfl,hid (by rw [Fr.prD_snoc];exact HF.out.pick [0,1,2] [8,9,10,11] (by decide) (by simp) (by simp)),hid ⟨HY.out.1.trans h1,h2,by have h3:=HL.out;have h4:=HM.out;omega,by have h3:=HL.out;have h4:=HAc.out;simp;omega⟩⟩
    case measure=>rw [HG.out];have:=HL.out;omega
   ·have HX1:=HO.out
    rw [HY.out.1,Fr.prx_end HSs.out,bind_ok]at HX1
    replace HX:=hid HX1
    clear HX1
    go_wp2_with (first
     | (go_at_call 100;(with_reducible refine(Fr.took_split _ B bp en _ _ HF.out.kp).mono ?_);rintro e W1 ⟨hr,⟨hs,rfl,hps⟩|⟨hs,rfl,hps⟩⟩;(focus((try simp only [hs,↓reduceIte,Fr.bB]at HX);replace HF:=hid (Fr.PF.call HB.out HF.out hr hps);replace HL:=hid (Fr.tail_add hs HL.out);clear hr hps hs));rotate_left;(focus((try simp only [hs,↓reduceIte,Fr.bB]at HX);replace HF:=hid (Fr.PF.call HB.out HF.out hr hps);clear hr hps hs));rotate_left)
     | (go_at_call 104;(with_reducible refine(HSs0.out _ B bp _ (by have h1:=HL.out;have h2:=HN.out;(try have h3:=HM.out);omega) HF.out.kp).mono ?_);rintro e W1 ⟨hr,⟨ss,l1,v,hx,hps,rfl,hV⟩|⟨q,hx,rfl⟩⟩;(focus(have hd0:=hV;(try simp only [hx,↓reduceIte,Fr.bB]at HX);replace HL:=hid (Fr.suf_add (Tr.suf_stats en HC.out.ce.rg _) hx HL.out);have HF2:=Fr.PF.call HB.out HF.out hr hps;replace HF2:=Fr.Fm.since HF.out HF2 hd0;replace HF:=hid HF2;clear HF2 hr hps hx hd0));rotate_left;(focus((try simp only [hx,↓reduceIte,Fr.bB]at HX);have HR:=hid (rd_trans HF.out.gr hr);clear hr hx));rotate_left)
     | (first|((with_reducible refine is_store (T:=28) ?_);(first|((refine wl_store1 0 HF.out Fr.tySS rfl rfl rfl rfl rfl ?_ ?_);(focus(exact(HF.out.da 0 _ _ rfl).one))));intro W1 HF1;simp only [setL,z0,z1]at HF1;replace HF:=hid HF1;clear HF1))
     | (go_at_call 105;(with_reducible refine(ends_any _ B bp en _ _ HF.out.kp).mono ?_);rintro e W1 ⟨hr,⟨_,l1,v,hx,hps,rfl,rfl⟩|⟨q,hx,rfl⟩⟩;(focus((try simp only [hx,↓reduceIte,Fr.bB]at HX);replace HL:=hid (con_add (Tr.con_ends en _ _) hx HL.out);replace HF:=hid (Fr.PF.call HB.out HF.out hr hps);clear hr hps hx));rotate_left;(focus((try simp only [hx,↓reduceIte,Fr.bB]at HX);have HR:=hid (rd_trans HF.out.gr hr);clear hr hx));rotate_left)
     | (first|((with_reducible refine is_load (T:=9) ?_);(first|(refine wl_load1 0 HF.out rfl rfl Tryz.underlying9 rfl rfl ?_)))|((with_reducible refine is_load (T:=30) ?_);(first|(refine Fr.wl_load 0 HF.out rfl rfl Tryz.underlying30 rfl tyM rfl ?_))))
     | (first|((with_reducible refine is_store (T:=30) ?_);(first|(refine wl_store 2 HF.out tyM rfl rfl rfl rfl rfl (z4 rfl) (by repeat' (first|exact z3 _|refine z2 ?_ ?_|rfl|(refine HF.out.oneM ?_;simp;done)|exact HF.out.rowOne 1 rfl)) ?_));intro W1 HF1;simp only [setL,z0,z1]at HF1;replace HF:=hid HF1;clear HF1))
     | (go_at_call 98;(with_reducible refine(skip_any _ B bp en _ _ HF.out.kp).mono ?_);rintro e W1 ⟨hr,⟨_,l1,v,hx,hps,rfl,rfl⟩|⟨q,hx,rfl⟩⟩;(focus((try simp only [hx,↓reduceIte,Fr.bB]at HX);replace HL:=hid (con_add (con_skip en _ _) hx HL.out);replace HF:=hid (Fr.PF.call HB.out HF.out hr hps);clear hr hps hx));rotate_left;(focus((try simp only [hx,↓reduceIte,Fr.bB]at HX);have HR:=hid (rd_trans HF.out.gr hr);clear hr hx));rotate_left))
    all_goals first|(exact⟨rfl,HR.out,.inr ⟨_,HX.out,rfl⟩⟩)|skip
    all_goals
     replace HF:=hid (HF.out.close (k:=1) rfl)
     refine bodyPost_ret (Fr.fm_results 2 HF.out Tryz.results58 rfl rfl Tryz.underlying30 rfl tyM rfl) rfl ?_
     refine⟨Fr.PF.rd HF.out,.inl ⟨_,_,_,HX.out,Fr.PF.ps HF.out,rfl,_,rfl,?_⟩⟩
     simp only [Tr.moD,Tr.stDs]
     (repeat' (first|exact Da.row_nil _ _|exact Da.Is.int _|exact Da.Is.str _|exact is_nil _|exact HF.out.out 0 rfl|exact HF.out.out 1 rfl|exact HF.out.out 2 rfl|exact HF.out.out 3 rfl|exact HF.out.out 4 rfl|exact HF.out.out 5 rfl|refine Da.row_cons ?_ ?_))
end Go.Proofs.YtlhmkfcbldghfaaGreatDoor
