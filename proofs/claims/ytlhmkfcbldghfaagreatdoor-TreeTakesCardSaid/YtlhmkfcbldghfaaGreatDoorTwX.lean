/- The walks of tree's walker's small functions: noting a node,noting lists' lengths. Conditions: none. -/
import Derived.Test.YtlhmkfcbldghfaaGreatDoorFmX
import Derived.Test.YtlhmkfcbldghfaaGreatDoorFmY
import Derived.Test.YtlhmkfcbldghfaaGreatDoorTtX
import Derived.Test.YtlhmkfcbldghfaaGreatDoorTrA
import Derived.Test.YtlhmkfcbldghfaaGreatDoorTuEa
namespace Go.Proofs.YtlhmkfcbldghfaaGreatDoor
set_option linter.all false
open Go.Lib (hid)
set_option maxRecDepth 1000000
set_option maxHeartbeats 16000000
open Go.RowKit
open Fr (is_int is_load is_str row_inv setL tkB tkM tyT wE wT wl_fieldAt)
open Tr (exsW fdD fdDs fdsW tyD tyDs tysW)
namespace Tr
def wkC(x:Wk):List Value:=[.int .i64 x.left,.int .i64 x.deepest,.bool x.long]
end Tr
theorem node_any{w W:World}{g:Option Nat}{Kp:World→Prop}{R:List Fr.RI}{Ds:List (Value × Da.D)}(bw:Nat)(x:Tr.Wk)(d:Int)(h:Fr.Fm w g Kp W (.blk bw (Tr.wkC x)::R) Ds) :
  Calls Tryz.prog 152 #[.pointer (some ⟨bw,0,none⟩),.int .i64 d] W fun e W'=>e=.returned (.bool (decide (0≤(Tr.nodeW d x).left)))∧Fr.Fm w g Kp W' (.blk bw (Tr.wkC (Tr.nodeW d x))::R) Ds:=by
 obtain⟨y,hy⟩:∃ y,y=Tr.nodeW d x:=⟨_,rfl⟩
 rw [← hy]
 obtain⟨lf,dp,lg⟩:=x
 have HF:=hid (show Fr.Fm w g Kp W (.blk bw [.int .i64 lf,.int .i64 dp,.bool lg]::R) Ds from h)
 have HY:=hid hy
 clear h hy
 go_enter Tryz.func152,Tryz.ntmps152
 go_wp2_with (first
  | (first|((with_reducible refine is_load (T:=3) ?_);(first|(refine Fr.wl_load1 0 HF.out rfl rfl Tryz.underlying3 rfl rfl ?_))))
  | (first|((with_reducible refine Fr.is_store (T:=3) ?_);(first|((refine Fr.wl_store1 0 HF.out Fr.tyInt rfl rfl rfl rfl rfl ?_ ?_);(focus(rfl))));intro W1 HF1;simp only [setL,z0,z1]at HF1;replace HF:=hid HF1;clear HF1)))
 all_goals obtain rfl:=HY.out
 all_goals refine bodyPost_ret (v:=.bool (decide (0≤wrap64 (lf - 1)))) (by simp [results,Tryz.results152,go_sem]) rfl ⟨rfl,HF.out⟩
theorem list_any{w W:World}{g:Option Nat}{Kp:World→Prop}{R:List Fr.RI}{Ds:List (Value × Da.D)}(bw:Nat)(x:Tr.Wk)(m:Nat)(v:Value)(ns:List Nat)(hn:∀ n∈ns,(n:Int)≤9223372036854775807)(hd:Ds[m]?=some (v,Da.D.list 1 (ns.map fun(n:Nat)=>[Da.D.int (n:Int)])))(h:Fr.Fm w g Kp W (.blk bw (Tr.wkC x)::R) Ds) :
  Calls Tryz.prog 113 #[.pointer (some ⟨bw,0,none⟩),v] W fun e W'=>e=.returned (.tuple #[])∧Fr.Fm w g Kp W' (.blk bw (Tr.wkC (Tr.listsW ns x))::R) Ds:=by
 have hv:∃ p c,v=.slice p ns.length c∧ns.length≤9223372036854775807∧(0<ns.length→∃ b off,p=some ⟨b,off,none⟩):=by
  rcases h.daForm hd with⟨h0,p,c,rfl,hc⟩|⟨b,off,c,rfl,h0,h1,h2⟩
  ·have:ns.length=0:=by simpa using congrArg List.length h0
   rw [this]
   exact⟨p,c,rfl,by omega,fun h=>by omega⟩
  ·rw [List.length_map]at h1 ⊢
   unfold maxLen at h2
   exact⟨_,_,rfl,by omega,fun _=>⟨_,_,rfl⟩⟩
 obtain⟨p,c,rfl,hl,hp⟩:=hv
 have HF:=hid h
 have HD:=hid hd
 have HN:=hid hn
 have HP:=hid hp
 have hl2:(ns.length:Int)≤9223372036854775807:=by omega
 clear h hd hn hp
 go_enter Tryz.func113,Tryz.ntmps113
 go_wp2
 go_loopg [8] ns.length (fun gm v8 wr=>∃ k:Nat,gm=ns.length - k∧k≤ns.length∧v8=.int .i64 k∧RowKit.Hid (Fr.Fm w g Kp wr (.blk bw (Tr.wkC (Tr.listsW (ns.take k) x))::R) Ds))
 case atStart=>exact⟨0,by simp,by omega,rfl,HF⟩
 case round =>
  clear HF
  obtain⟨k,hg,hk,rfl,HF⟩:=hrel
  by_cases hlt:k<ns.length
  ·obtain⟨b,off,rfl⟩:=HP.out (by omega)
   have hi:(ns.map fun(n:Nat)=>[Da.D.int (n:Int)])[k]?=some [.int (ns[k]:Int)]:=by simp [hlt]
   have hki:(k:Int)<(ns.length:Int):=by omega
   have hk0:(0:Int)≤(k:Int):=by omega
   have hk1:(k:Int)≤9223372036854775807:=by omega
   obtain⟨y,hy⟩:∃ y,y=Tr.listsW (ns.take k) x:=⟨_,rfl⟩
   rw [← hy]at HF
   have hy1:Tr.listsW (ns.take (k+1)) x=Tr.listW ns[k] y:=by
    rw [hy,List.take_succ,List.getElem?_eq_getElem hlt]
    exact Tr.lists_app _ _ _
   have HY:=hid hy1
   clear hy hy1
   obtain⟨lf,dp,lg⟩:=y
   replace HF:=hid (show Fr.Fm w g Kp wr (.blk bw [.int .i64 lf,.int .i64 dp,.bool lg]::R) Ds from HF.out)
   generalize hnk:ns[k]=nk at HY hi
   cases lg
   all_goals
    go_wp2_with (first
     | ((with_reducible refine is_load (T:=3) ?_);(refine wl_fieldAt m HF.out HD.out k 0 rfl (by omega) hi rfl Tryz.underlying3 rfl ?_);intro v5 HF1;obtain rfl:=is_int (HF1.da 0 _ _ rfl);clear HF1)
     | (first|((with_reducible refine is_load (T:=4) ?_);(first|(refine Fr.wl_load1 0 HF.out rfl rfl Tryz.underlying4 rfl rfl ?_))))
     | (first|((with_reducible refine Fr.is_store (T:=4) ?_);(first|((refine Fr.wl_store1 0 HF.out Fr.tyBool rfl rfl rfl rfl rfl ?_ ?_);(focus(rfl))));intro W1 HF1;simp only [setL,z0,z1]at HF1;replace HF:=hid HF1;clear HF1)))
   all_goals go_roundg (ns.length - (k+1))
   all_goals have e:decide ((64:Int)<(nk:Int))=(false || decide (64<nk)):=(by simp;omega)
   all_goals first
    | omega
    | (refine⟨k+1,rfl,hlt,by simp,hid ?_⟩;rw [HY.out];exact HF.out)
    | (refine⟨k+1,rfl,hlt,by simp,hid ?_⟩;rw [HY.out];have h1:=HF.out;rw [e]at h1;exact h1)
  ·have hki:¬(k:Int)<(ns.length:Int):=by omega
   obtain rfl:k=ns.length:=by omega
   have h1:=HF.out
   rw [List.take_length]at h1
   replace HF:=hid h1
   clear h1
   go_wp2
   go_end0
   exact⟨rfl,HF.out⟩
namespace Fr
open Da Tr
theorem Fm.less{w W:World}{g:Option Nat}{Kp:World→Prop}{R:List RI}{Ds:List (Value × D)}{p:Value × D}(h:Fm w g Kp W R (p::Ds)):Fm w g Kp W R Ds:=
 ⟨h.gr,h.hg,h.st,h.kp,h.ap,h.ri,fun i v d hi=>h.da (i+1) v d (by simpa using hi)⟩
theorem Fm.daSlice{w W:World}{g:Option Nat}{Kp:World→Prop}{R:List RI}{Ds:List (Value × D)}{m:Nat}{v:Value}{size:Nat}{rows:List (List D)}(h:Fm w g Kp W R Ds)(hd:Ds[m]?=some (v,.list size rows)):∃ p c,v=.slice p rows.length c∧rows.length≤9223372036854775807∧(0<rows.length→∃ b off,p=some ⟨b,off,none⟩):=by
 rcases h.daForm hd with⟨h0,p,c,rfl,hc⟩|⟨b,off,c,rfl,h0,h1,h2⟩
 ·subst h0;exact⟨p,c,rfl,by simp,fun h=>by simp at h⟩
 ·unfold maxLen at h2
  exact⟨_,_,rfl,by omega,fun _=>⟨_,_,rfl⟩⟩
end Fr
abbrev WkEx(es:List Tr.Ex):Prop:=∀{w W:World} {g:Option Nat} {Kp:World→Prop} {R:List Fr.RI} {Ds:List (Value × Da.D)} (bw:Nat) (x:Tr.Wk) (m:Nat) (v:Value) (d:Int) (_:Ds[m]?=some (v,Da.D.list 6 (Tr.exDs es))) (_:Fr.Fm w g Kp W (.blk bw (Tr.wkC x)::R) Ds),
  Calls Tryz.prog 117 #[.pointer (some ⟨bw,0,none⟩),v,.int .i64 d] W fun e W'=>e=.returned (.tuple #[])∧Fr.Fm w g Kp W' (.blk bw (Tr.wkC (exsW es d x))::R) Ds
theorem exprs_step(es:List Tr.Ex)(ih:∀ xs:List Tr.Ex,SizeOf.sizeOf xs<SizeOf.sizeOf es→WkEx xs):WkEx es:=by
 intro w W g Kp R Ds bw x m v d hd h
 obtain⟨p,c,rfl,hl,hp⟩:=h.daSlice hd
 rw [Fr.exDs_len']at hl hp hd ⊢
 obtain⟨Y,hY⟩:∃ Y,Y=exsW es d x:=⟨_,rfl⟩
 rw [← hY]
 have HF:=hid h
 have HD:=hid hd
 have HP:=hid hp
 have HR:=hid ih
 have HY0:=hid hY
 have hl2:(es.length:Int)≤9223372036854775807:=by omega
 clear h hd hp hY ih
 go_enter Tryz.func117,Tryz.ntmps117
 go_wp2
 go_loopg [9] es.length (fun gm v9 wr=>∃(k:Nat) (y:Tr.Wk),gm=es.length - k∧k≤es.length∧v9=.int .i64 k∧RowKit.Hid (Y=exsW (es.drop k) d y)∧RowKit.Hid (Fr.Fm w g Kp wr (.blk bw (Tr.wkC y)::R) Ds))
 case atStart=>exact⟨0,x,by simp,by omega,rfl,HY0,HF⟩
 case round =>
  clear HF HY0
  obtain⟨k,y,hg,hk,rfl,HY,HF⟩:=hrel
  by_cases hlt:k<es.length
  ·obtain⟨b,off,rfl⟩:=HP.out (by omega)
   have hki:(k:Int)<(es.length:Int):=by omega
   have hk0:(0:Int)≤(k:Int):=by omega
   have hk1:(k:Int)≤9223372036854775807:=by omega
   have hY1:=HY.out
   rw [List.drop_eq_getElem_cons hlt]at hY1
   have hmem:es[k]∈es:=List.getElem_mem hlt
   have hi:(Tr.exDs es)[k]?=some (Tr.exD es[k]):=by rw [Tr.exDs_map];simp [hlt]
   generalize es[k]=e0 at hY1 hmem hi
   obtain⟨kd,n0,tx,op,xs,p0⟩:=e0
   have hsz:SizeOf.sizeOf xs<SizeOf.sizeOf es:=by
    have h1:=List.sizeOf_lt_of_mem hmem
    simp only [Tr.Ex.mk.sizeOf_spec]at h1
    omega
   unfold exsW at hY1
   unfold Tr.exD at hi
   clear hmem HY
   by_cases hneg:(Tr.nodeW d y).left<0
   ·have hdec:decide (0≤(Tr.nodeW d y).left)=false:=decide_eq_false (by omega)
    rw [if_pos hneg]at hY1
    have HY:=hid hY1
    clear hY1
    go_wp2_with (first
     | (go_at_call 152;(with_reducible refine(node_any bw _ d HF.out).mono ?_);rintro e W1 ⟨he,HF1⟩;rw [hdec]at he;subst he;replace HF:=hid HF1;clear HF1))
    refine bodyPost_ret (v:=.tuple #[]) (by simp [results,Tryz.results117,go_sem]) rfl ⟨rfl,?_⟩
    rw [HY.out]
    exact HF.out
   ·have hdec:decide (0≤(Tr.nodeW d y).left)=true:=decide_eq_true (by omega)
    rw [if_neg hneg]at hY1
    have HY:=hid hY1
    clear hY1
    go_wp2_with (first
     | (go_at_call 152;(with_reducible refine(node_any bw _ d HF.out).mono ?_);rintro e W1 ⟨he,HF1⟩;rw [hdec]at he;subst he;replace HF:=hid HF1;clear HF1)
     | ((with_reducible refine is_load (T:=47) ?_);(refine wl_fieldAt m HF.out HD.out k 4 rfl (by first|rfl|omega) hi rfl Tryz.underlying47 rfl ?_);intro v5 HF1;obtain⟨p5,c5,rfl,hl5,-⟩:=Fr.Fm.daSlice (m:=0) HF1 rfl;rw [Fr.exDs_len']at hl5;simp only [Fr.exDs_len']at HF1 ⊢;replace HF:=hid HF1;clear HF1)
     | ((with_reducible refine Fr.is_lit ?_);(refine Fr.wl_lit1 HF.out Tryz.underlying219 Fr.tyInt (by simp) (by simp) rfl rfl rfl [.int (xs.length:Int)] (by exact Da.row_cons (Da.Is.int _) (Da.row_nil _ _)) ?_);intro b5 W1 HF1;replace HF:=hid HF1;clear HF1)
     | (go_at_call 113;(with_reducible refine(list_any bw _ 0 _ [xs.length] (by simp;omega) rfl HF.out).mono ?_);rintro e W1 ⟨rfl,HF1⟩;replace HF:=hid HF1.less.less;clear HF1)
     | (go_at_call 117;(with_reducible refine(HR.out xs hsz bw _ 0 _ _ rfl HF.out).mono ?_);rintro e W1 ⟨rfl,HF1⟩;replace HF:=hid HF1.less;clear HF1))
    go_roundg (es.length - (k+1))
    case rel=>exact⟨k+1,_,rfl,hlt,by simp,HY,HF⟩
    case measure=>omega
  ·have hki:¬(k:Int)<(es.length:Int):=by omega
   have h1:=HY.out
   rw [List.drop_eq_nil_of_le (by omega)]at h1
   unfold exsW at h1
   go_wp2
   go_end0
   exact⟨rfl,by first|exact HF.out|(rw [h1];exact HF.out)⟩
theorem exprs_all:∀ es:List Tr.Ex,WkEx es:=by
 have key:∀(n:Nat) (es:List Tr.Ex),SizeOf.sizeOf es<n→WkEx es:=by
  intro n
  induction n with
  | zero=>intro es h;omega
  | succ n ih=>intro es h;exact exprs_step es (fun xs ha=>ih xs (by omega))
 exact fun es=>key _ es (Nat.lt_succ_self _)
namespace Fr
open Da Tr
theorem Fm.plus{w W:World}{g:Option Nat}{Kp:World→Prop}{R:List RI}{Ds:List (Value × D)}{v:Value}{d:D}(h:Fm w g Kp W R Ds)(hd:Is W (Off w.heap.size R) v d):Fm w g Kp W R ((v,d)::Ds):=
 ⟨h.gr,h.hg,h.st,h.kp,h.ap,h.ri,fun k v' d2 hk=>by
  cases k with
  | zero =>
   simp only [List.getElem?_cons_zero,Option.some.injEq,Prod.mk.injEq]at hk
   obtain⟨rfl,rfl⟩:=hk
   exact hd
  | succ k=>exact h.da k v' d2 (by simpa using hk)⟩
theorem Fm.lessR{w W:World}{g:Option Nat}{Kp:World→Prop}{r:RI}{R:List RI}{Ds:List (Value × D)}(h:Fm w g Kp W (r::R) Ds):Fm w g Kp W R Ds:=by
 have h3:=h.pick ((List.range R.length).map (·+1)) (List.range Ds.length) (by
  rw [List.nodup_iff_pairwise_ne,List.pairwise_map]
  exact(List.nodup_range).imp fun h=>by omega) (by intro k hk;simp at hk ⊢;omega) (by intro k hk;simp at hk ⊢;omega)
 have e1:((List.range R.length).map (·+1)).map (fun k=>(r::R).getD k dead)=R:=by
  apply List.ext_getElem?
  intro i
  by_cases hi:i<R.length
  ·simp [hi]
  ·simp [hi]
 have e2:(List.range Ds.length).map (fun k=>Ds.getD k (.nilIface,.int 0))=Ds:=by
  apply List.ext_getElem?
  intro i
  by_cases hi:i<Ds.length
  ·simp [hi]
  ·simp [hi]
 rwa [e1,e2]at h3
theorem fdDs_len'(xs:List (List UInt8 × Bool × Ty × Int)):(fdDs xs).length=xs.length:=by rw [fdDs_map,List.length_map]
end Fr
abbrev WkTy(ts:List Tr.Ty):Prop:=∀{w W:World} {g:Option Nat} {Kp:World→Prop} {R:List Fr.RI} {Ds:List (Value × Da.D)} (bw:Nat) (x:Tr.Wk) (m:Nat) (v:Value) (d:Int) (_:Ds[m]?=some (v,Da.D.list 10 (tyDs ts))) (_:Fr.Fm w g Kp W (.blk bw (Tr.wkC x)::R) Ds),
  Calls Tryz.prog 151 #[.pointer (some ⟨bw,0,none⟩),v,.int .i64 d] W fun e W'=>e=.returned (.tuple #[])∧Fr.Fm w g Kp W' (.blk bw (Tr.wkC (tysW ts d x))::R) Ds
theorem params_step(ps:List (List UInt8 × Bool × Tr.Ty × Int))(rs:List Tr.Ty)(hT:∀ f∈ps,WkTy [f.2.2.1])(hR:WkTy rs){w W:World}{g:Option Nat}{Kp:World→Prop}{R:List Fr.RI}{Ds:List (Value × Da.D)}(bw:Nat)(x:Tr.Wk)(m m2:Nat)(v v2:Value)(d:Int)(hd:Ds[m]?=some (v,Da.D.list 13 (fdDs ps)))(hd2:Ds[m2]?=some (v2,Da.D.list 10 (tyDs rs)))(h:Fr.Fm w g Kp W (.blk bw (Tr.wkC x)::R) Ds) :
  Calls Tryz.prog 115 #[.pointer (some ⟨bw,0,none⟩),v,v2,.int .i64 d] W fun e W'=>e=.returned (.tuple #[])∧Fr.Fm w g Kp W' (.blk bw (Tr.wkC (tysW rs d (fdsW ps d x)))::R) Ds:=by
 obtain⟨p,c,rfl,hl,hp⟩:=h.daSlice hd
 rw [Fr.fdDs_len']at hl hp hd ⊢
 obtain⟨Y,hY⟩:∃ Y,Y=fdsW ps d x:=⟨_,rfl⟩
 rw [← hY]
 have HF:=hid h
 have HD:=hid hd
 have HD2:=hid hd2
 have HP:=hid hp
 have HT:=hid hT
 have HRs:RowKit.Hid (WkTy rs):=hid (p:=WkTy rs) @hR
 have HY0:=hid hY
 have hl2:(ps.length:Int)≤9223372036854775807:=by omega
 clear h hd hd2 hp hY hT hR
 go_enter Tryz.func115,Tryz.ntmps115
 go_wp2
 go_loopg [12] ps.length (fun gm v9 wr=>∃(k:Nat) (y:Tr.Wk),gm=ps.length - k∧k≤ps.length∧v9=.int .i64 k∧RowKit.Hid (Y=fdsW (ps.drop k) d y)∧RowKit.Hid (Fr.Fm w g Kp wr (.blk bw (Tr.wkC y)::R) Ds))
 case atStart=>exact⟨0,x,by simp,by omega,rfl,HY0,HF⟩
 case round =>
  clear HF HY0
  obtain⟨k,y,hg,hk,rfl,HY,HF⟩:=hrel
  by_cases hlt:k<ps.length
  ·obtain⟨b,off,rfl⟩:=HP.out (by omega)
   have hki:(k:Int)<(ps.length:Int):=by omega
   have hk0:(0:Int)≤(k:Int):=by omega
   have hk1:(k:Int)≤9223372036854775807:=by omega
   have hY1:=HY.out
   rw [List.drop_eq_getElem_cons hlt]at hY1
   have hmem:ps[k]∈ps:=List.getElem_mem hlt
   have hi:(fdDs ps)[k]?=some (fdD ps[k]):=by rw [Tr.fdDs_map];simp [hlt]
   generalize ps[k]=e0 at hY1 hmem hi
   obtain⟨nm,ex,⟨kd,mo,n0,ls,el,ba,fs,pa,ra,q0⟩,p0⟩:=e0
   have HY2:=hid (show Y=fdsW (ps.drop (k+1)) d (tysW [.mk kd mo n0 ls el ba fs pa ra q0] d y)from hY1)
   unfold fdD at hi
   simp only [tyD,List.cons_append,List.nil_append]at hi
   clear hY1 HY
   go_wp2_with (first
    | ((with_reducible refine is_load (T:=128) ?_);(refine Fr.wl_loadAt m HF.out HD.out k rfl (by first|rfl|omega) hi Tryz.underlying128 rfl Fr.tyPa rfl ?_);intro cs hrow;obtain⟨c0,_,rfl,h0,hrow⟩:=row_inv hrow;obtain⟨c1,_,rfl,h1,hrow⟩:=row_inv hrow;obtain⟨c2,_,rfl,h2,hrow⟩:=row_inv hrow;obtain⟨c3,_,rfl,h3,hrow⟩:=row_inv hrow;obtain⟨c4,_,rfl,h4,hrow⟩:=row_inv hrow;obtain⟨c5,_,rfl,h5,hrow⟩:=row_inv hrow;obtain⟨c6,_,rfl,h6,hrow⟩:=row_inv hrow;obtain⟨c7,_,rfl,h7,hrow⟩:=row_inv hrow;obtain⟨c8,_,rfl,h8,hrow⟩:=row_inv hrow;obtain⟨c9,_,rfl,h9,hrow⟩:=row_inv hrow;obtain⟨c10,_,rfl,h10,hrow⟩:=row_inv hrow;obtain⟨c11,_,rfl,h11,hrow⟩:=row_inv hrow;obtain⟨c12,_,rfl,h12,hrow⟩:=row_inv hrow;obtain rfl:=Fr.row_inv0 hrow;obtain rfl:=is_str h0;obtain rfl:=Fr.is_bool h1;obtain rfl:=is_int h2;obtain rfl:=is_str h3;obtain rfl:=is_str h4;obtain rfl:=is_int h11;obtain rfl:=is_int h12;replace HF:=hid (Fr.Fm.plus (Fr.Fm.plus (Fr.Fm.plus (Fr.Fm.plus (Fr.Fm.plus (Fr.Fm.plus HF.out h10) h9) h8) h7) h6) h5);clear h0 h1 h2 h3 h4 h5 h6 h7 h8 h9 h10 h11 h12 hrow)
    | ((with_reducible refine Fr.is_alloc (dst:=some 9) ?_);(first|(refine Fr.wl_alloc HF.out Fr.tyPa ?_));intro b9 W1 HF1;replace HF:=hid HF1;clear HF1)
    | (first|((with_reducible refine Fr.is_store (T:=128) ?_);(first|(refine Fr.wl_store 0 HF.out Fr.tyPa rfl rfl rfl rfl rfl (z4 rfl) oT ?_));intro W1 HF1;simp only [setL,z0,z1]at HF1;replace HF:=hid HF1;clear HF1))
    | ((with_reducible refine is_load (T:=123) ?_);(refine Fr.wl_loadSub 0 HF.out rfl rfl (vs:=[.int .i64 kd,.string ⟨mo.toArray⟩,.string ⟨n0.toArray⟩,c5,c6,c7,c8,c9,c10,.int .i64 q0]) rfl Tryz.underlying123 rfl tyT rfl ?_))
    | ((with_reducible refine Fr.is_lit ?_);(refine Fr.wl_lit1 HF.out Tryz.underlying65 tyT (by simp) (by simp) rfl rfl rfl (tyD (.mk kd mo n0 ls el ba fs pa ra q0)) ?_ ?_);(focus(simp only [tyD];(repeat' (first|exact Da.row_nil _ _|exact Da.Is.int _|exact Da.Is.str _|(refine HF.out.isM ?_;simp;done)|refine Da.row_cons ?_ ?_))));intro b W1 HF1;replace HF:=hid HF1;clear HF1)
    | (go_at_call 151;(with_reducible refine(HT.out _ hmem bw _ 0 _ d rfl HF.out.lessR).mono ?_);rintro e W1 ⟨rfl,HF1⟩;replace HF:=hid HF1.less.less.less.less.less.less.less;clear HF1))
   go_roundg (ps.length - (k+1))
   case rel=>exact⟨k+1,_,rfl,hlt,by simp,HY2,HF⟩
   case measure=>omega
  ·have hki:¬(k:Int)<(ps.length:Int):=by omega
   have h1:=HY.out
   rw [List.drop_eq_nil_of_le (by omega)]at h1
   unfold fdsW at h1
   have HY1:=hid h1
   clear h1
   go_wp2_with (first
    | (go_at_call 151;(with_reducible refine(HRs.out bw _ m2 _ d HD2.out HF.out).mono ?_);rintro e W1 ⟨rfl,HF1⟩;replace HF:=hid HF1;clear HF1))
   go_end0
   exact⟨rfl,by rw [HY1.out];exact HF.out⟩
theorem types_step(ts:List Tr.Ty)(ih:∀ us:List Tr.Ty,SizeOf.sizeOf us<SizeOf.sizeOf ts→WkTy us):WkTy ts:=by
 intro w W g Kp R Ds bw x m v d hd h
 obtain⟨p,c,rfl,hl,hp⟩:=h.daSlice hd
 have tl:∀ us:List Tr.Ty,(tyDs us).length=us.length:=fun us=>by rw [Tr.tyDs_map,List.length_map]
 rw [tl]at hl hp hd ⊢
 obtain⟨Y,hY⟩:∃ Y,Y=tysW ts d x:=⟨_,rfl⟩
 rw [← hY]
 have HF:=hid h
 have HD:=hid hd
 have HP:=hid hp
 have HR:=hid ih
 have HY0:=hid hY
 have hl2:(ts.length:Int)≤9223372036854775807:=by omega
 clear h hd hp hY ih
 go_enter Tryz.func151,Tryz.ntmps151
 go_wp2
 go_loopg [12] ts.length (fun gm v9 wr=>∃(k:Nat) (y:Tr.Wk),gm=ts.length - k∧k≤ts.length∧v9=.int .i64 k∧RowKit.Hid (Y=tysW (ts.drop k) d y)∧RowKit.Hid (Fr.Fm w g Kp wr (.blk bw (Tr.wkC y)::R) Ds))
 case atStart=>exact⟨0,x,by simp,by omega,rfl,HY0,HF⟩
 case round =>
  clear HF HY0
  obtain⟨k,y,hg,hk,rfl,HY,HF⟩:=hrel
  by_cases hlt:k<ts.length
  ·obtain⟨b,off,rfl⟩:=HP.out (by omega)
   have hki:(k:Int)<(ts.length:Int):=by omega
   have hk0:(0:Int)≤(k:Int):=by omega
   have hk1:(k:Int)≤9223372036854775807:=by omega
   have hY1:=HY.out
   rw [List.drop_eq_getElem_cons hlt]at hY1
   have hmem:ts[k]∈ts:=List.getElem_mem hlt
   have hi:(tyDs ts)[k]?=some (tyD ts[k]):=by rw [Tr.tyDs_map];simp [hlt]
   generalize ts[k]=e0 at hY1 hmem hi
   obtain⟨kd,mo,n0,ls,el,ba,fs,pa,ra,q0⟩:=e0
   have hsz:=List.sizeOf_lt_of_mem hmem
   simp only [Tr.Ty.mk.sizeOf_spec]at hsz
   unfold tysW at hY1
   unfold tyD at hi
   clear hmem HY
   by_cases hneg:(Tr.nodeW d y).left<0
   ·have hdec:decide (0≤(Tr.nodeW d y).left)=false:=decide_eq_false (by omega)
    rw [if_pos hneg]at hY1
    have HY:=hid hY1
    clear hY1
    go_wp2_with (first
     | (go_at_call 152;(with_reducible refine(node_any bw _ d HF.out).mono ?_);rintro e W1 ⟨he,HF1⟩;rw [hdec]at he;subst he;replace HF:=hid HF1;clear HF1))
    refine bodyPost_ret (v:=.tuple #[]) (by simp [results,Tryz.results151,go_sem]) rfl ⟨rfl,?_⟩
    rw [HY.out]
    exact HF.out
   ·have hdec:decide (0≤(Tr.nodeW d y).left)=true:=decide_eq_true (by omega)
    rw [if_neg hneg]at hY1
    have HY:=hid hY1
    clear hY1
    go_wp2_with (first
     | (go_at_call 152;(with_reducible refine(node_any bw _ d HF.out).mono ?_);rintro e W1 ⟨he,HF1⟩;rw [hdec]at he;subst he;replace HF:=hid HF1;clear HF1))
    obtain⟨v0,c0,hb0,HF1⟩:=HF.out.fieldCell HD.out k 3 hi rfl
    obtain⟨v1,c1,_,HF2⟩:=HF.out.fieldCell HD.out k 4 hi rfl
    obtain⟨v2,c2,_,HF3⟩:=HF.out.fieldCell HD.out k 5 hi rfl
    obtain⟨v3,c3,_,HF4⟩:=HF.out.fieldCell HD.out k 6 hi rfl
    obtain⟨v4,c4,_,HF5⟩:=HF.out.fieldCell HD.out k 7 hi rfl
    obtain⟨v5,c5,_,HF6⟩:=HF.out.fieldCell HD.out k 8 hi rfl
    obtain⟨p0,d0,rfl,g0,-⟩:=HF1.daSlice (m:=0) rfl
    obtain⟨p1,d1,rfl,g1,-⟩:=HF2.daSlice (m:=0) rfl
    obtain⟨p2,d2,rfl,g2,-⟩:=HF3.daSlice (m:=0) rfl
    obtain⟨p3,d3,rfl,g3,-⟩:=HF4.daSlice (m:=0) rfl
    obtain⟨p4,d4,rfl,g4,-⟩:=HF5.daSlice (m:=0) rfl
    obtain⟨p5,d5,rfl,g5,-⟩:=HF6.daSlice (m:=0) rfl
    simp only [tl,Fr.exDs_len',Fr.fdDs_len']at c0 c1 c2 c3 c4 c5 g0 g1 g2 g3 g4 g5
    clear HF1 HF2 HF3 HF4 HF5 HF6
    replace HF:=hid HF.out.drew
    refine wp_region_G (UpTo 31 (fun X=>X.cell? ⟨b,off+k * 10+3,none⟩=some (.slice p0 ls.length d0)∧X.cell? ⟨b,off+k * 10+4,none⟩=some (.slice p1 el.length d1)∧X.cell? ⟨b,off+k * 10+5,none⟩=some (.slice p2 ba.length d2)∧X.cell? ⟨b,off+k * 10+6,none⟩=some (.slice p3 fs.length d3)∧X.cell? ⟨b,off+k * 10+7,none⟩=some (.slice p4 pa.length d4)∧X.cell? ⟨b,off+k * 10+8,none⟩=some (.slice p5 ra.length d5))) 33 (by kernel_rfl) (by kernel_rfl) (fun _=>⟨c0,c1,c2,c3,c4,c5⟩) (fun _ hS=>?_)
    generalize World.drew _=W1 at HF hS ⊢
    refine tkM (n:=33) (is:=[0,1,2,3]) (k:=4) rfl (by kernel_rfl) hS ?_
    repeat(refine wT (v:=?_) rfl (by rfl) (fun X xb=>?_) ?_;rotate_left 1;(focus(go_simp;try with_reducible rfl));try simp only [Act.put,zA,z0,z1])
    refine wE fun hS=>?_
    refine tkB (n:=33) (is:=[4]) [[5,4]] (k:=1) rfl (by kernel_rfl) hS ?_
    repeat(refine wT (v:=?_) rfl (by rfl) (fun X xb=>?_) ?_;rotate_left 1;(focus(go_simp;try with_reducible rfl));try simp only [Act.put,zA,z0,z1])
    refine wE fun hS=>?_
    refine tkM (n:=33) (is:=[5,6,7,8]) (k:=4) rfl (by kernel_rfl) hS ?_
    repeat(refine wT (v:=?_) rfl (by rfl) (fun X xb=>?_) ?_;rotate_left 1;(focus(go_simp;try with_reducible rfl));try simp only [Act.put,zA,z0,z1])
    refine wE fun hS=>?_
    refine tkB (n:=33) (is:=[9]) [[10,9]] (k:=1) rfl (by kernel_rfl) hS ?_
    repeat(refine wT (v:=?_) rfl (by rfl) (fun X xb=>?_) ?_;rotate_left 1;(focus(go_simp;try with_reducible rfl));try simp only [Act.put,zA,z0,z1])
    refine wE fun hS=>?_
    refine tkM (n:=33) (is:=[10,11,12,13]) (k:=4) rfl (by kernel_rfl) hS ?_
    repeat(refine wT (v:=?_) rfl (by rfl) (fun X xb=>?_) ?_;rotate_left 1;(focus(go_simp;try with_reducible rfl));try simp only [Act.put,zA,z0,z1])
    refine wE fun hS=>?_
    refine tkB (n:=33) (is:=[14]) [[15,14]] (k:=1) rfl (by kernel_rfl) hS ?_
    repeat(refine wT (v:=?_) rfl (by rfl) (fun X xb=>?_) ?_;rotate_left 1;(focus(go_simp;try with_reducible rfl));try simp only [Act.put,zA,z0,z1])
    refine wE fun hS=>?_
    refine tkM (n:=33) (is:=[15,16,17,18]) (k:=4) rfl (by kernel_rfl) hS ?_
    repeat(refine wT (v:=?_) rfl (by rfl) (fun X xb=>?_) ?_;rotate_left 1;(focus(go_simp;try with_reducible rfl));try simp only [Act.put,zA,z0,z1])
    refine wE fun hS=>?_
    refine tkB (n:=33) (is:=[19]) [[20,19]] (k:=1) rfl (by kernel_rfl) hS ?_
    repeat(refine wT (v:=?_) rfl (by rfl) (fun X xb=>?_) ?_;rotate_left 1;(focus(go_simp;try with_reducible rfl));try simp only [Act.put,zA,z0,z1])
    refine wE fun hS=>?_
    refine tkM (n:=33) (is:=[20,21,22,23]) (k:=4) rfl (by kernel_rfl) hS ?_
    repeat(refine wT (v:=?_) rfl (by rfl) (fun X xb=>?_) ?_;rotate_left 1;(focus(go_simp;try with_reducible rfl));try simp only [Act.put,zA,z0,z1])
    refine wE fun hS=>?_
    refine tkB (n:=33) (is:=[24]) [[25,24]] (k:=1) rfl (by kernel_rfl) hS ?_
    repeat(refine wT (v:=?_) rfl (by rfl) (fun X xb=>?_) ?_;rotate_left 1;(focus(go_simp;try with_reducible rfl));try simp only [Act.put,zA,z0,z1])
    refine wE fun hS=>?_
    refine tkM (n:=33) (is:=[25,26,27,28]) (k:=4) rfl (by kernel_rfl) hS ?_
    repeat(refine wT (v:=?_) rfl (by rfl) (fun X xb=>?_) ?_;rotate_left 1;(focus(go_simp;try with_reducible rfl));try simp only [Act.put,zA,z0,z1])
    refine wE fun hS=>?_
    refine tkB (n:=33) (is:=[29]) [[30,29]] (k:=1) rfl (by kernel_rfl) hS ?_
    repeat(refine wT (v:=?_) rfl (by rfl) (fun X xb=>?_) ?_;rotate_left 1;(focus(go_simp;try with_reducible rfl));try simp only [Act.put,zA,z0,z1])
    refine wE fun hS=>?_
    refine tkM (n:=33) (is:=[30]) (k:=1) rfl (by kernel_rfl) hS ?_
    repeat(refine wT (v:=?_) rfl (by rfl) (fun X xb=>?_) ?_;rotate_left 1;(focus(go_simp;try with_reducible rfl));try simp only [Act.put,zA,z0,z1])
    refine wE fun hS=>?_
    refine rd1 (i:=31) (by kernel_rfl) (.cons rfl (fun K hK=>?_) .nil)
    refine(if_pos (by rfl)).mpr ?_
    refine Fr.ow_int6 HF.out Tryz.underlying219 Fr.tyInt (z0:=(ls.length:Int)) (z1:=(el.length:Int)) (z2:=(ba.length:Int)) (z3:=(fs.length:Int)) (z4:=(pa.length:Int)) (z5:=(ra.length:Int)) rfl rfl rfl rfl rfl rfl rfl ?_
    intro b5 W1 HF1
    replace HF:=hid HF1;clear HF1
    refine hK.out _ _ (fun h=>absurd h (by simp [Fr.setAll])) fun hS=>?_;clear hK K
    try simp only [Act.put,zA,z0,z1]
    refine rd1 (i:=32) (by kernel_rfl) (.cons rfl (fun K hK=>?_) .nil)
    go_simp
    (go_at_call 113;(with_reducible refine(list_any bw _ 0 _ [ls.length,el.length,ba.length,fs.length,pa.length,ra.length] (by simp;omega) rfl HF.out).mono ?_);rintro e W1 ⟨rfl,HF1⟩;replace HF:=hid HF1.less;clear HF1)
    go_simp
    refine hK.out _ _ (fun h=>absurd h (by simp [Fr.setAll])) fun hS=>?_;clear hK K
    try simp only [Act.put,zA,z0,z1]
    refine wpAnyG_done (by kernel_rfl) ?_ _
    clear hS
    clear c0 c1 c2 c3 c4 c5
    go_wp2_with (first
     | ((with_reducible refine is_load (T:=47) ?_);(refine wl_fieldAt m HF.out HD.out k 3 rfl (by first|rfl|omega) hi rfl Tryz.underlying47 rfl ?_);intro v9 HF1;replace HF:=hid HF1;clear HF1)
     | (first|((with_reducible refine is_load (T:=65) ?_);(refine wl_fieldAt m HF.out HD.out k 5 rfl (by first|rfl|omega) hi rfl Tryz.underlying65 rfl ?_);intro v9 HF1;replace HF:=hid HF1;clear HF1)|((with_reducible refine is_load (T:=65) ?_);(refine wl_fieldAt m HF.out HD.out k 4 rfl (by first|rfl|omega) hi rfl Tryz.underlying65 rfl ?_);intro v9 HF1;replace HF:=hid HF1;clear HF1))
     | ((with_reducible refine is_load (T:=121) ?_);(refine wl_fieldAt m HF.out HD.out k 6 rfl (by first|rfl|omega) hi rfl Tryz.underlying121 rfl ?_);intro v9 HF1;obtain⟨p6,c6,rfl,hl6,hp6⟩:=Fr.Fm.daSlice (m:=0) HF1 rfl;simp only [Fr.fdDs_len']at HF1 hl6 hp6 ⊢;replace HF:=hid HF1;have HP6:=hid hp6;clear HF1 hp6)
     | (go_at_call 117;(with_reducible refine(exprs_all ls bw _ 0 _ _ rfl HF.out).mono ?_);rintro e W1 ⟨rfl,HF1⟩;replace HF:=hid HF1.less;clear HF1)
     | (first|(go_at_call 151;(with_reducible refine(HR.out ba (by omega) bw _ 0 _ _ rfl HF.out).mono ?_);rintro e W1 ⟨rfl,HF1⟩;replace HF:=hid HF1.less;clear HF1)|(go_at_call 151;(with_reducible refine(HR.out el (by omega) bw _ 0 _ _ rfl HF.out).mono ?_);rintro e W1 ⟨rfl,HF1⟩;replace HF:=hid HF1.less;clear HF1)))
    obtain⟨Z,hZ⟩:∃ Z,Z=fdsW fs (Tr.up d) (tysW el (Tr.up d) (tysW ba (Tr.up d) (exsW ls (Tr.up d) (Tr.listsW [ls.length,el.length,ba.length,fs.length,pa.length,ra.length] (Tr.nodeW d y))))):=⟨_,rfl⟩
    have HYZ:=hid (show Y=tysW (List.drop (k+1) ts) d (tysW ra (Tr.up d) (fdsW pa (Tr.up d) Z))by rw [HY.out,hZ];rfl)
    have HZ:=hid hZ
    clear hZ HY
    go_loopg [84] fs.length (fun gm v9 wr=>∃(j:Nat) (z:Tr.Wk),gm=fs.length - j∧j≤fs.length∧v9=.int .i64 j∧RowKit.Hid (Z=fdsW (fs.drop j) (Tr.up d) z)∧RowKit.Hid (Fr.Fm w g Kp wr (.blk bw (Tr.wkC z)::R) ((.slice p6 fs.length c6,Da.D.list 13 (fdDs fs))::Ds)))
    case atStart=>exact⟨0,_,by simp,by omega,rfl,HZ,HF⟩
    case round =>
     have HG:=hid hg
     clear HF HZ hg
     obtain⟨j,z,hg,hj,rfl,HZ,HF⟩:=hrel
     by_cases hjl:j<fs.length
     ·obtain⟨b6,off6,rfl⟩:=HP6.out (by omega)
      have hji:(j:Int)<(fs.length:Int):=by omega
      have hj0:(0:Int)≤(j:Int):=by omega
      have hj1:(j:Int)≤9223372036854775807:=by omega
      have hZ1:=HZ.out
      rw [List.drop_eq_getElem_cons hjl]at hZ1
      have hmf:fs[j]∈fs:=List.getElem_mem hjl
      have hi2:(fdDs fs)[j]?=some (fdD fs[j]):=by rw [Tr.fdDs_map];simp [hjl]
      generalize fs[j]=f0 at hZ1 hmf hi2
      have hsf:=List.sizeOf_lt_of_mem hmf
      obtain⟨nm,ex,⟨kd2,mo2,n2,ls2,el2,ba2,fs2,pa2,ra2,q2⟩,pf⟩:=f0
      have hszf:SizeOf.sizeOf [Tr.Ty.mk kd2 mo2 n2 ls2 el2 ba2 fs2 pa2 ra2 q2]<SizeOf.sizeOf ts:=by
       simp only [Prod.mk.sizeOf_spec,List.cons.sizeOf_spec,List.nil.sizeOf_spec,Tr.Ty.mk.sizeOf_spec]at hsf ⊢
       omega
      have HZ2:=hid (show Z=fdsW (fs.drop (j+1)) (Tr.up d) (tysW [.mk kd2 mo2 n2 ls2 el2 ba2 fs2 pa2 ra2 q2] (Tr.up d) z)from hZ1)
      unfold fdD at hi2
      simp only [tyD,List.cons_append,List.nil_append]at hi2
      clear hZ1 hmf HZ hsf
      go_wp2_with (first
       | ((with_reducible refine is_load (T:=129) ?_);(refine Fr.wl_loadAt 0 HF.out rfl j rfl (by first|rfl|omega) hi2 Tryz.underlying129 rfl Fr.tyF rfl ?_);intro cs hrow;obtain⟨c0,_,rfl,h0,hrow⟩:=row_inv hrow;obtain⟨c1,_,rfl,h1,hrow⟩:=row_inv hrow;obtain⟨c2,_,rfl,h2,hrow⟩:=row_inv hrow;obtain⟨c3,_,rfl,h3,hrow⟩:=row_inv hrow;obtain⟨c4,_,rfl,h4,hrow⟩:=row_inv hrow;obtain⟨c5,_,rfl,h5,hrow⟩:=row_inv hrow;obtain⟨c6,_,rfl,h6,hrow⟩:=row_inv hrow;obtain⟨c7,_,rfl,h7,hrow⟩:=row_inv hrow;obtain⟨c8,_,rfl,h8,hrow⟩:=row_inv hrow;obtain⟨c9,_,rfl,h9,hrow⟩:=row_inv hrow;obtain⟨c10,_,rfl,h10,hrow⟩:=row_inv hrow;obtain⟨c11,_,rfl,h11,hrow⟩:=row_inv hrow;obtain⟨c12,_,rfl,h12,hrow⟩:=row_inv hrow;obtain rfl:=Fr.row_inv0 hrow;obtain rfl:=is_str h0;obtain rfl:=Fr.is_bool h1;obtain rfl:=is_int h2;obtain rfl:=is_str h3;obtain rfl:=is_str h4;obtain rfl:=is_int h11;obtain rfl:=is_int h12;replace HF:=hid (Fr.Fm.plus (Fr.Fm.plus (Fr.Fm.plus (Fr.Fm.plus (Fr.Fm.plus (Fr.Fm.plus HF.out h10) h9) h8) h7) h6) h5);clear h0 h1 h2 h3 h4 h5 h6 h7 h8 h9 h10 h11 h12 hrow)
       | ((with_reducible refine Fr.is_alloc (dst:=some 9) ?_);(first|(refine Fr.wl_alloc HF.out Fr.tyF ?_));intro b9 W1 HF1;replace HF:=hid HF1;clear HF1)
       | (first|((with_reducible refine Fr.is_store (T:=129) ?_);(first|(refine Fr.wl_store 0 HF.out Fr.tyF rfl rfl rfl rfl rfl (z4 rfl) oT ?_));intro W1 HF1;simp only [setL,z0,z1]at HF1;replace HF:=hid HF1;clear HF1))
       | ((with_reducible refine is_load (T:=123) ?_);(refine Fr.wl_loadSub 0 HF.out rfl rfl (vs:=[.int .i64 kd2,.string ⟨mo2.toArray⟩,.string ⟨n2.toArray⟩,c5,c6,c7,c8,c9,c10,.int .i64 q2]) rfl Tryz.underlying123 rfl tyT rfl ?_))
       | ((with_reducible refine Fr.is_lit ?_);(refine Fr.wl_lit1 HF.out Tryz.underlying65 tyT (by simp) (by simp) rfl rfl rfl (tyD (.mk kd2 mo2 n2 ls2 el2 ba2 fs2 pa2 ra2 q2)) ?_ ?_);(focus(simp only [tyD];(repeat' (first|exact Da.row_nil _ _|exact Da.Is.int _|exact Da.Is.str _|(refine HF.out.isM ?_;simp;done)|refine Da.row_cons ?_ ?_))));intro b W1 HF1;replace HF:=hid HF1;clear HF1)
       | (go_at_call 151;(with_reducible refine(HR.out _ hszf bw _ 0 _ _ rfl HF.out.lessR).mono ?_);rintro e W1 ⟨rfl,HF1⟩;replace HF:=hid HF1.less.less.less.less.less.less.less;clear HF1))
      go_roundg (fs.length - (j+1))
      case rel=>exact⟨j+1,_,rfl,hjl,by simp,HZ2,HF⟩
      case measure=>omega
     ·have hji:¬(j:Int)<(fs.length:Int):=by omega
      have h1:=HZ.out
      rw [List.drop_eq_nil_of_le (by omega)]at h1
      unfold fdsW at h1
      subst h1
      replace HF:=hid HF.out.less
      go_wp2
      have hTp:∀ f∈pa,WkTy [f.2.2.1]:=fun f hf=>by
       have hsf:=List.sizeOf_lt_of_mem hf
       obtain⟨nm,ex,tf,pf⟩:=f
       have hw:SizeOf.sizeOf [tf]<SizeOf.sizeOf ts:=by
        simp only [Prod.mk.sizeOf_spec,List.cons.sizeOf_spec,List.nil.sizeOf_spec]at hsf ⊢
        omega
       show WkTy [tf]
       exact @fun w W g Kp R Ds=>HR.out [tf] hw
      have hRp:WkTy ra:=HR.out ra (by omega)
      obtain⟨v4,e4,hb4,HF5⟩:=HF.out.fieldCell HD.out k 7 hi rfl
      obtain⟨v5,e5,_,HF6⟩:=HF5.fieldCell (m:=m+1) (show((v4,_)::Ds)[m+1]?=_ from HD.out) k 8 hi rfl
      replace HF:=hid HF6
      clear HF5 HF6
      refine region_tail 11 (by kernel_rfl) (by kernel_rfl) ?_
      simp only [List.take_succ_cons,List.take_zero,List.drop_succ_cons,List.drop_zero]
      repeat still_step
      refine wpStill_nil ?_
      replace HF:=hid HF.out.drew
      generalize World.drew _=W5 at HF ⊢
      clear e4 e5
      go_wp2_with (first
       | (go_at_call 115;(with_reducible refine(params_step pa ra hTp hRp bw _ 1 0 _ _ _ rfl rfl HF.out).mono ?_);rintro e W1 ⟨rfl,HF1⟩;replace HF:=hid HF1.less.less;clear HF1))
      go_roundg (ts.length - (k+1))
      case rel=>exact⟨k+1,_,rfl,hlt,by simp,HYZ,HF⟩
      case measure=>have:=HG.out;omega
  ·have hki:¬(k:Int)<(ts.length:Int):=by omega
   have h1:=HY.out
   rw [List.drop_eq_nil_of_le (by omega)]at h1
   unfold tysW at h1
   go_wp2
   go_end0
   exact⟨rfl,by first|exact HF.out|(rw [h1];exact HF.out)⟩
theorem types_all:∀ ts:List Tr.Ty,WkTy ts:=by
 have key:∀(n:Nat) (ts:List Tr.Ty),SizeOf.sizeOf ts<n→WkTy ts:=by
  intro n
  induction n with
  | zero=>intro ts h;omega
  | succ n ih=>intro ts h;exact types_step ts (fun us hu=>ih us (by omega))
 exact fun ts=>key _ ts (Nat.lt_succ_self _)
theorem params_all(ps:List (List UInt8 × Bool × Tr.Ty × Int))(rs:List Tr.Ty){w W:World}{g:Option Nat}{Kp:World→Prop}{R:List Fr.RI}{Ds:List (Value × Da.D)}(bw:Nat)(x:Tr.Wk)(m m2:Nat)(v v2:Value)(d:Int)(hd:Ds[m]?=some (v,Da.D.list 13 (fdDs ps)))(hd2:Ds[m2]?=some (v2,Da.D.list 10 (tyDs rs)))(h:Fr.Fm w g Kp W (.blk bw (Tr.wkC x)::R) Ds) :
  Calls Tryz.prog 115 #[.pointer (some ⟨bw,0,none⟩),v,v2,.int .i64 d] W fun e W'=>e=.returned (.tuple #[])∧Fr.Fm w g Kp W' (.blk bw (Tr.wkC (tysW rs d (fdsW ps d x)))::R) Ds:=
 params_step ps rs (fun _ _=>types_all _) (types_all rs) bw x m m2 v v2 d hd hd2 h
end Go.Proofs.YtlhmkfcbldghfaaGreatDoor
