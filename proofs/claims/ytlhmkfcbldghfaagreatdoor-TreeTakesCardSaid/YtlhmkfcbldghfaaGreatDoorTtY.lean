/- What the readers of expressions want of each other;the walk of tree's parser's term. Conditions: the parser's block is as it is made;shorter texts are read as they should be. -/
import Derived.Test.YtlhmkfcbldghfaaGreatDoorTtX
import Derived.Deep.LoopGhost
import Derived.RegionDies
import Derived.OwnWalk
namespace Go.Proofs.YtlhmkfcbldghfaaGreatDoor
set_option linter.all false
open Go.Lib (hid)
set_option maxRecDepth 1000000
set_option maxHeartbeats 16000000
open Go.RowKit
open Tr (blk_new exDs rd_trans)
namespace Tr
open Da
def Nx(lo:Nat)(S:List Nat)(b:Nat):Prop:=lo≤b∧b ∉ S
theorem Is.nx_iv{w:World}{lo lo' hi:Nat}{S:List Nat}{v:Value}{d:D}(h:Is w (Iv lo' hi) v d)(hl:lo≤lo')(hS:∀ b∈S,b<lo'∨hi≤b):Is w (Nx lo S) v d:=
 h.mono fun b hb=>⟨Nat.le_trans hl hb.1,fun hm=>by have:=hS b hm;have h1:=hb.1;have h2:=hb.2;omega⟩
theorem Is.nx_set{w:World}{lo b:Nat}{S:List Nat}{v:Value}{d:D}(h:Is w (Nx lo S) v d)(hb:b∈S∨b<lo)(i:Nat)(x:Value):Is (w.setCell ⟨b,i,none⟩ x) (Nx lo S) v d:=
 h.keep (by rw [World.size_setCell];exact Nat.le_refl _) (fun b' j hP _=>World.cell?_of_block (w:=w) (set_block w (fun e=>by subst e;rcases hb with hb|hb;exact hP.2 hb;have:=hP.1;omega) i x)) (fun _ h _=>h)
theorem Is.nx_rd{w w':World}{bp lo:Nat}{S:List Nat}{v:Value}{d:D}(h:Is w (Nx lo S) v d)(hr:Rd w bp w')(hb:bp<lo):Is w' (Nx lo S) v d:=
 h.keep hr.size (fun b i hP hlt=>World.cell?_of_block (w:=w) (hr.block b hlt (fun e=>by simp at e;have:=hP.1;omega))) (fun _ h _=>h)
theorem Is.nx_out{w:World}{lo:Nat}{S:List Nat}{v:Value}{d:D}(h:Is w (Nx lo S) v d):Is w (fun b=>lo≤b) v d:=h.mono fun _ hb=>hb.1
theorem Is.form{w:World}{P:Nat→Prop}{v:Value}{size:Nat}{rows:List (List D)}(h:Is w P v (.list size rows)):∃ a n c,v=.slice a n c:=by
 obtain⟨_,p,c,rfl,_⟩:=h.reads
 exact⟨_,_,_,rfl⟩
theorem Res.ok{α:Type}{f:FuncId}{args:Array Value}{w:World}{B bp:Nat}{en:Int}{x:R α}{V:World→Value→α→Prop}{a:α}{l:List Tok}(h:Calls Tryz.prog f args w (Res w B bp en x V))(hx:x=.ok a l) :
  Calls Tryz.prog f args w fun e w'=>Rd w bp w'∧PS w' B bp en l∧∃ v,e=.returned v∧V w' v a:=by
 refine h.mono fun e w' ⟨hr,hh⟩=>⟨hr,?_⟩
 rcases hh with⟨a',l',v,h1,h2,h3,h4⟩|⟨q,h1,_⟩
 ·rw [hx]at h1
  simp only [R.ok.injEq]at h1
  obtain⟨rfl,rfl⟩:=h1
  exact⟨h2,v,h3,h4⟩
 ·rw [hx]at h1;cases h1
theorem Res.no{α:Type}{f:FuncId}{args:Array Value}{w:World}{B bp:Nat}{en q:Int}{x:R α}{V:World→Value→α→Prop}(h:Calls Tryz.prog f args w (Res w B bp en x V))(hx:x=.no q) :
  Calls Tryz.prog f args w fun e w'=>e=gone q∧Rd w bp w':=by
 refine h.mono fun e w' ⟨hr,hh⟩=>?_
 rcases hh with⟨a',l',v,h1,_⟩|⟨q',h1,h2⟩
 ·rw [hx]at h1;cases h1
 ·rw [hx]at h1
  simp only [R.no.injEq]at h1
  subst h1
  exact⟨h2,hr⟩
structure CE(en:Int)(n:Nat)(r:Rc):Prop where
 rg:Rg r
 ex:∀ w B bp l,l.length<n→PS w B bp en l→Calls Tryz.prog 147 #[.pointer (some ⟨bp,0,none⟩)] w (Res w B bp en (r.ex l) (VEx w.heap.size))
 fa:∀ w B bp l,l.length<n→PS w B bp en l→Calls Tryz.prog 233 #[.pointer (some ⟨bp,0,none⟩)] w (Res w B bp en (r.fa l) (VEx w.heap.size))
def CF(f:FuncId)(en:Int)(n:Nat)(F:List Tok→R Ex):Prop:=∀ w B bp l,l.length≤n→PS w B bp en l→Calls Tryz.prog f #[.pointer (some ⟨bp,0,none⟩)] w (Res w B bp en (F l) (VEx w.heap.size))
end Tr
theorem op_some(w:World)(B bp:Nat)(en:Int)(l:List Tr.Tok)(ws:List (List UInt8))(o:List UInt8)(cs:Array Value)(T:TypeId)(n:Nat)(ho:Tr.opT ws l=some o)(hcs:cs=(ws.map fun l=>Value.string ⟨l.toArray⟩).toArray)(hn:ws.length=n)(hm:(n:Int)≤1000)(hp:Tr.PS w B bp en l) :
  Calls Tryz.prog 184 #[.pointer (some ⟨bp,0,none⟩),.slice (some ⟨w.heap.size,0,none⟩) n n] (w.alloc (.cells cs T)) fun e w'=>e=.returned (.tuple #[.string ⟨o.toArray⟩,.bool true])∧Tr.Rd (w.alloc (.cells cs T)) bp w'∧Tr.PS w' B bp en l.tail:=by
 have hb:=blk_new w cs T
 have:=op_any (w.alloc (.cells cs T)) B bp en l ws w.heap.size 0 n n (hp.alloc _) hn hm (Int.le_refl _) hb.lt (hid fun k h=>by rw [Nat.zero_add,hb.cell k,hcs];simp [h])
 unfold Tr.opV Tr.opR at this
 rw [ho]at this
 exact this
theorem op_none(w:World)(B bp:Nat)(en:Int)(l:List Tr.Tok)(ws:List (List UInt8))(cs:Array Value)(T:TypeId)(n:Nat)(ho:Tr.opT ws l=none)(hcs:cs=(ws.map fun l=>Value.string ⟨l.toArray⟩).toArray)(hn:ws.length=n)(hm:(n:Int)≤1000)(hp:Tr.PS w B bp en l) :
  Calls Tryz.prog 184 #[.pointer (some ⟨bp,0,none⟩),.slice (some ⟨w.heap.size,0,none⟩) n n] (w.alloc (.cells cs T)) fun e w'=>e=.returned (.tuple #[.string ⟨#[]⟩,.bool false])∧Tr.Rd (w.alloc (.cells cs T)) bp w'∧Tr.PS w' B bp en l:=by
 have hb:=blk_new w cs T
 have:=op_any (w.alloc (.cells cs T)) B bp en l ws w.heap.size 0 n n (hp.alloc _) hn hm (Int.le_refl _) hb.lt (hid fun k h=>by rw [Nat.zero_add,hb.cell k,hcs];simp [h])
 unfold Tr.opV Tr.opR at this
 rw [ho]at this
 exact this
namespace Tr
open Da
abbrev zEx:Array Value:=#[.int .i64 0,.int .i64 0,.string ⟨#[]⟩,.string ⟨#[]⟩,.slice none 0 0,.int .i64 0]
abbrev cEx(k n:Int)(t o:List UInt8)(va:Value)(p:Int):Array Value:=#[.int .i64 k,.int .i64 n,.string ⟨t.toArray⟩,.string ⟨o.toArray⟩,va,.int .i64 p]
theorem Blk.set6{w:World}{b:Nat}{a0 a1 a2 a3 a4 a5:Value}(h:Blk w b #[a0,a1,a2,a3,a4,a5])(v0 v1 v2 v3 v4 v5:Value) :
  Blk ((((((w.setCell ⟨b,0,none⟩ v0).setCell ⟨b,1,none⟩ v1).setCell ⟨b,2,none⟩ v2).setCell ⟨b,3,none⟩ v3).setCell ⟨b,4,none⟩ v4).setCell ⟨b,5,none⟩ v5) b #[v0,v1,v2,v3,v4,v5]:=by
 have:=(((((h.set 0 v0).set 1 v1).set 2 v2).set 3 v3).set 4 v4).set 5 v5
 simpa using this
theorem Is.nx_set6{w:World}{lo b:Nat}{S:List Nat}{v:Value}{d:D}(h:Is w (Nx lo S) v d)(hb:b∈S∨b<lo)(v0 v1 v2 v3 v4 v5:Value) :
  Is ((((((w.setCell ⟨b,0,none⟩ v0).setCell ⟨b,1,none⟩ v1).setCell ⟨b,2,none⟩ v2).setCell ⟨b,3,none⟩ v3).setCell ⟨b,4,none⟩ v4).setCell ⟨b,5,none⟩ v5) (Nx lo S) v d:=
 Is.nx_set (Is.nx_set (Is.nx_set (Is.nx_set (Is.nx_set (Is.nx_set h hb 0 v0) hb 1 v1) hb 2 v2) hb 3 v3) hb 4 v4) hb 5 v5
theorem Blk.other6{w:World}{b g:Nat}{cs:Array Value}(h:Blk w b cs)(hne:g ≠ b)(v0 v1 v2 v3 v4 v5:Value) :
  Blk ((((((w.setCell ⟨g,0,none⟩ v0).setCell ⟨g,1,none⟩ v1).setCell ⟨g,2,none⟩ v2).setCell ⟨g,3,none⟩ v3).setCell ⟨g,4,none⟩ v4).setCell ⟨g,5,none⟩ v5) b cs:=
 (((((h.other hne 0 v0).other hne 1 v1).other hne 2 v2).other hne 3 v3).other hne 4 v4).other hne 5 v5
theorem rd_set6{w w1:World}{bp b:Nat}(h:Rd w bp w1)(hb:b=bp∨w.heap.size≤b)(v0 v1 v2 v3 v4 v5:Value) :
  Rd w bp ((((((w1.setCell ⟨b,0,none⟩ v0).setCell ⟨b,1,none⟩ v1).setCell ⟨b,2,none⟩ v2).setCell ⟨b,3,none⟩ v3).setCell ⟨b,4,none⟩ v4).setCell ⟨b,5,none⟩ v5):=
 rd_set (rd_set (rd_set (rd_set (rd_set (rd_set h hb 0 v0) hb 1 v1) hb 2 v2) hb 3 v3) hb 4 v4) hb 5 v5
theorem PS.set6{w:World}{B bp b:Nat}{en:Int}{l:List Tok}(h:PS w B bp en l)(hb:B≤b)(v0 v1 v2 v3 v4 v5:Value) :
  PS ((((((w.setCell ⟨b,0,none⟩ v0).setCell ⟨b,1,none⟩ v1).setCell ⟨b,2,none⟩ v2).setCell ⟨b,3,none⟩ v3).setCell ⟨b,4,none⟩ v4).setCell ⟨b,5,none⟩ v5) B bp en l:=
 (((((h.set hb 0 v0).set hb 1 v1).set hb 2 v2).set hb 3 v3).set hb 4 v4).set hb 5 v5
structure LSt(w wr:World)(B bp:Nat)(en:Int)(b2 b3:Nat)(k n:Int)(t o:List UInt8)(xs:List Ex)(va:Value)(p:Int)(lc:List Tok):Prop where
 rd:Rd w bp wr
 ps:PS wr B bp en lc
 x2:Blk wr b2 zEx
 x3:Blk wr b3 (cEx k n t o va p)
 is:Is wr (Nx w.heap.size [b2,b3]) va (.list 6 (exDs xs))
theorem bin_mk(op:List UInt8)(k n p:Int)(t o:List UInt8)(xs:List Ex)(c:Ex):bin op (.mk k n t o xs p) c=.mk 14 0 [] op [.mk k n t o xs p,c] p:=rfl
end Tr
theorem term_any(en:Int)(n:Nat)(F:List Tr.Tok→Tr.R Tr.Ex)(hF:Tr.CF 233 en n F)(hc:∀ l,Tr.Con l (F l)):Tr.CF 219 en n (fun l=>(F l).bind fun a l1=>Tr.binL Tr.mulOps F (l.length+1) a l1):=by
 intro w B bp l hl hp
 obtain⟨X,hX⟩:∃ X,X=(F l).bind fun a l1=>Tr.binL Tr.mulOps F (l.length+1) a l1:=⟨_,rfl⟩
 show Calls Tryz.prog 219 #[.pointer (some ⟨bp,0,none⟩)] w (Tr.Res w B bp en ((F l).bind fun a l1=>Tr.binL Tr.mulOps F (l.length+1) a l1) (Tr.VEx w.heap.size))
 rw [← hX]
 have HF:=hid hF
 have HCn:=hid hc
 have hB:=hp.size
 have hb:=hp.ptr
 have HP:=hid hp
 have HL:=hid hl
 clear hF hc hp hl
 cases hE:F l with
 | no q =>
  have HE:=hid (fun W hW=>Tr.Res.no (HF.out W B bp l HL.out hW) hE)
  rw [hE]at hX
  have HX:=hid (show X=.no q from hX)
  clear hE hX
  go_enter Tryz.func219,Tryz.ntmps219
  go_wp2_with (go_at_call 233;(with_reducible refine(HE.out _ ?_).mono ?_);(focus(exact pT));rintro e w2 ⟨rfl,hr⟩;replace HR:=hid (show Tr.Rd w bp _ from rd_trans rT hr);clear hr)
  exact⟨rfl,HR.out,.inr ⟨_,HX.out,rfl⟩⟩
 | ok a l1 =>
  have HE:=hid (fun W hW=>Tr.Res.ok (HF.out W B bp l HL.out hW) hE)
  obtain⟨t1,tl,hsf⟩:=HCn.out l a l1 hE
  rw [hE]at hX
  have hlen:l.length=tl.length+l1.length+1:=by rw [hsf];simp
  have HLn:=hid (show l1.length<l.length+1∧l1.length≤n by have:=HL.out;omega)
  have HX:=hid (show X=Tr.binL Tr.mulOps F (l.length+1) a l1 from hX)
  clear hE hsf hX hlen
  obtain⟨k,m,t,o,xs,p⟩:=a
  go_enter Tryz.func219,Tryz.ntmps219
  go_wp2_with (go_at_call 233;(with_reducible refine(HE.out _ ?_).mono ?_);(focus(exact pT));rintro e w2 ⟨hr,hps,v,rfl,va,hv,hva⟩;obtain⟨pa,na,ca,rfl⟩:=Tr.Is.form hva;obtain rfl:v=.agg #[.int .i64 k,.int .i64 m,.string ⟨t.toArray⟩,.string ⟨o.toArray⟩,.slice pa na ca,.int .i64 p]:=hv;replace HR:=hid (show Tr.Rd w bp _ from rd_trans rT hr);have hs2:=hr.size;simp at hs2;have hs3:w.heap.size<w2.heap.size:=(by omega);have HX2:=hid ((blk_new w Tr.zEx 53).rd hr (by omega));have HVA:=hid (Tr.Is.fix hva);replace HP:=hid hps;clear hr hps hva)
  have HS:=hid (show Tr.LSt w (w2.alloc (.cells (Tr.cEx k m t o (.slice pa na ca) p) 53)) B bp en w.heap.size w2.heap.size k m t o xs (.slice pa na ca) p l1 from
   ⟨rT,pT,HX2.out.alloc _,blk_new _ _ _,(Tr.Is.nx_iv (lo:=w.heap.size) (S:=[w.heap.size,w2.heap.size]) (Tr.Is.alloc HVA.out _) (by simp) (by intro b hb';simp at hb';rcases hb' with rfl|rfl <;> simp <;> omega))⟩)
  have hb3:w.heap.size<w2.heap.size:=by omega
  generalize hW:World.alloc _ _=W at HS ⊢
  clear hW HVA HX2 HP HR hs2 hs3
  obtain⟨b3,hb3'⟩:∃ b3,b3=w2.heap.size:=⟨_,rfl⟩
  rw [← hb3']at HS hb3 ⊢
  clear hb3'
  go_loopg [8] l1.length (fun g (_:Value) wr=>∃(k m:Int) (t o:List UInt8) (xs:List Tr.Ex) (va:Value) (p:Int) (lc:List Tr.Tok) (fu:Nat),g=lc.length∧Hid (Tr.LSt w wr B bp en w.heap.size b3 k m t o xs va p lc)∧Hid (X=Tr.binL Tr.mulOps F (fu+1) (.mk k m t o xs p) lc∧lc.length≤fu∧lc.length≤n))
  case atStart=>exact⟨k,m,t,o,xs,_,p,l1,l.length,rfl,HS,hid ⟨HX.out,by have:=HLn.out;omega,HLn.out.2⟩⟩
  case round =>
   clear HS HX HLn HE
   obtain⟨k,m,t,o,xs,va,p,lc,fu,hg,H,HX⟩:=hrel
   have HG:=hid hg
   obtain⟨pa,na,ca,rfl⟩:=Tr.Is.form H.out.is
   clear hg
   have HR:=hid H.out.rd
   have hlw:=H.out.rd.size
   have hb3w:=H.out.x3.lt
   cases ho:Tr.opT Tr.mulOps lc with
   | none =>
    have HO:=hid (op_none wr B bp en lc Tr.mulOps #[.string ⟨#[42]⟩,.string ⟨#[47]⟩,.string ⟨#[68,73,86]⟩,.string ⟨#[77,79,68]⟩,.string ⟨#[38]⟩] 9 5 ho rfl rfl (by decide) H.out.ps)
    have HXe:=hid (show X=.ok (.mk k m t o xs p) lc by rw [HX.out.1];unfold Tr.binL;rw [ho])
    clear ho HX HG
    go_wp2_with (go_at_call 184;(with_reducible refine(HO.out).mono ?_);rintro e w4 ⟨rfl,hr4,hp4⟩;replace HR:=hid (show Tr.Rd w bp _ from rd_trans rT hr4);have HX2:=hid ((H.out.x2.alloc _).rd hr4 (by omega));have HX3:=hid ((H.out.x3.alloc _).rd hr4 (by omega));have HIS:=hid (Tr.Is.nx_rd (Tr.Is.alloc H.out.is _) hr4 (by omega));have hs4:=hr4.size;simp at hs4;have hl2:=HX2.out.lt;have hl3:=HX3.out.lt;have hx2:=HX2.out.cell;have hf2:=HX2.out.free;have hx3:=HX3.out.cell;have hf3:=HX3.out.free;replace HP:=hid hp4;clear hr4 hp4)
    refine bodyPost_ret (v:=.agg #[.int .i64 k,.int .i64 m,.string ⟨t.toArray⟩,.string ⟨o.toArray⟩,.slice pa na ca,.int .i64 p]) (by simp [results,Tryz.results219,go_sem,hx2,hf2,hx3,hf3]) rfl ?_
    exact⟨Tr.rd_set6 HR.out (.inr (Nat.le_refl _)) _ _ _ _ _ _,.inl ⟨_,_,_,HXe.out,Tr.PS.set6 HP.out hB _ _ _ _ _ _,rfl,_,rfl,Tr.Is.nx_out (Tr.Is.nx_set6 HIS.out (.inl (by simp)) _ _ _ _ _ _)⟩⟩
   | some oo =>
    have HO:=hid (op_some wr B bp en lc Tr.mulOps oo #[.string ⟨#[42]⟩,.string ⟨#[47]⟩,.string ⟨#[68,73,86]⟩,.string ⟨#[77,79,68]⟩,.string ⟨#[38]⟩] 9 5 ho rfl rfl (by decide) H.out.ps)
    have hne:=Tr.opT_ne ho
    have hlt:lc.tail.length<lc.length:=by cases lc with|nil=>exact absurd rfl hne|cons x y=>simp
    have HLc:=hid (show lc.tail.length≤n∧lc.tail.length<lc.length by have:=HX.out.2.2;omega)
    cases hE:F lc.tail with
    | no q =>
     have HE:=hid (fun W hW=>Tr.Res.no (HF.out W B bp lc.tail HLc.out.1 hW) hE)
     have HXe:=hid (show X=.no q by rw [HX.out.1];unfold Tr.binL;rw [ho];simp only [hE,Tr.R.bind])
     clear ho HX HG hne hlt hE
     go_wp2_with (go_at_call 184;(with_reducible refine(HO.out).mono ?_);rintro e w4 ⟨rfl,hr4,hp4⟩;replace HR:=hid (show Tr.Rd w bp _ from rd_trans rT hr4);have HX2:=hid ((H.out.x2.alloc _).rd hr4 (by omega));have HX3:=hid ((H.out.x3.alloc _).rd hr4 (by omega));have HIS:=hid (Tr.Is.nx_rd (Tr.Is.alloc H.out.is _) hr4 (by omega));have hs4:=hr4.size;simp at hs4;have hl2:=HX2.out.lt;have hl3:=HX3.out.lt;have hx2:=HX2.out.cell;have hf2:=HX2.out.free;have hx3:=HX3.out.cell;have hf3:=HX3.out.free;replace HP:=hid hp4;clear hr4 hp4)
     go_region_dies
     all_goals
      go_wp2_with (go_at_call 233;(with_reducible refine(HE.out _ ?_).mono ?_);(focus(exact pT));rintro e w5 ⟨rfl,hr5⟩;replace HR:=hid (show Tr.Rd w bp _ from rd_trans rT hr5);clear hr5)
      exact⟨rfl,HR.out,.inr ⟨_,HXe.out,rfl⟩⟩
    | ok c l2 =>
     have HE:=hid (fun W hW=>Tr.Res.ok (HF.out W B bp lc.tail HLc.out.1 hW) hE)
     obtain⟨t1,tl,hsf⟩:=HCn.out lc.tail c l2 hE
     have hlen:lc.tail.length=tl.length+l2.length+1:=by rw [hsf];simp
     obtain⟨f2,rfl⟩:∃ f2,fu=f2+1:=⟨fu - 1,by have:=HX.out.2.1;omega⟩
     have HX2n:=hid (show X=Tr.binL Tr.mulOps F (f2+1) (Tr.bin oo (.mk k m t o xs p) c) l2∧l2.length≤f2∧l2.length≤n∧l2.length<gk by
      have h1:=HX.out.2.1;have h2:=HX.out.2.2;have h3:=HG.out
      refine⟨?_,by omega,by omega,by omega⟩
      rw [HX.out.1];conv=>lhs;unfold Tr.binL
      rw [ho];simp only [hE,Tr.R.bind])
     clear ho HX HG hne hlt hE hsf hlen
     obtain⟨k',m',t',o',xs',p'⟩:=c
     go_wp2_with (go_at_call 184;(with_reducible refine(HO.out).mono ?_);rintro e w4 ⟨rfl,hr4,hp4⟩;replace HR:=hid (show Tr.Rd w bp _ from rd_trans rT hr4);have HX2:=hid ((H.out.x2.alloc _).rd hr4 (by omega));have HX3:=hid ((H.out.x3.alloc _).rd hr4 (by omega));have HIS:=hid (Tr.Is.nx_rd (Tr.Is.alloc H.out.is _) hr4 (by omega));have hs4:=hr4.size;simp at hs4;have hl2:=HX2.out.lt;have hl3:=HX3.out.lt;have hx2:=HX2.out.cell;have hf2:=HX2.out.free;have hx3:=HX3.out.cell;have hf3:=HX3.out.free;replace HP:=hid hp4;clear hr4 hp4)
     have HBn:=hid (fun pa' na' ca' (u:World)=>binary_any oo k m p k' m' p' t o t' o' (.slice pa na ca) (.slice pa' na' ca') u)
     go_region_with (first
      | (go_at_call 233;(with_reducible refine(HE.out _ ?_).mono ?_);(focus(exact pT));rintro e w5 ⟨hr5,hp5,v,rfl,va',hv,hva⟩;obtain⟨pa',na',ca',rfl⟩:=Tr.Is.form hva;obtain rfl:v=.agg #[.int .i64 k',.int .i64 m',.string ⟨t'.toArray⟩,.string ⟨o'.toArray⟩,.slice pa' na' ca',.int .i64 p']:=hv;have HY2:=hid ((HX2.out.below bT).rd hr5 (by omega));have HY3:=hid ((HX3.out.below bT).rd hr5 (by omega));have HYS:=hid (Tr.Is.nx_rd (HIS.out.later bT) hr5 (by omega));have HYC:=hid (Tr.Is.fix hva);have hz5:=hr5.size;simp at hz5;have hy3:=HY3.out.cell;replace HR:=hid (show Tr.Rd w bp _ from rd_trans rT hr5);replace HP:=hid hp5;clear hr5 hp5 hva)
      | (go_at_call 185;(with_reducible refine(HBn.out _ _ _ _).mono ?_);rintro e w6 ⟨⟨bn,rfl,hbn,hBn⟩,hb6⟩;have HZ2:=hid (HY2.out.below (hb6.mono (by simp)));have HZ3:=hid (HY3.out.below (hb6.mono (by simp)));have hz3:=HZ3.out.cell;have hg3:=HZ3.out.free;have HB6:=hid hb6;have HBN:=hid hBn;clear hb6 hBn))
     all_goals go_wp2
     all_goals
      go_roundg l2.length
      case rel =>
       have hbb:bn ∉ [w.heap.size,b3]:=by simp;omega
       refine⟨14,0,[],oo,[.mk k m t o xs p,.mk k' m' t' o' xs' p'],.slice (some ⟨bn,0,none⟩) 2 2,p,l2,f2,rfl,hid ⟨?_,?_,?_,?_,?_⟩,hid ⟨?_,HX2n.out.2.1,HX2n.out.2.2.1⟩⟩
       ·exact Tr.rd_set6 (Tr.rd_below HR.out HB6.out) (.inr (by omega)) _ _ _ _ _ _
       ·exact Tr.PS.set6 (HP.out.below HB6.out) (by omega) _ _ _ _ _ _
       ·exact Tr.Blk.other6 HZ2.out (by omega) _ _ _ _ _ _
       ·exact Tr.Blk.set6 HZ3.out _ _ _ _ _ _
       ·exact Tr.Is.nx_set6 (Tr.is_two HBN.out ⟨by omega,hbb⟩ (HYS.out.later HB6.out) ((Tr.Is.nx_iv HYC.out (by simp;omega) (by intro b hb';simp at hb' ⊢;omega)).later HB6.out)) (.inl (by simp)) _ _ _ _ _ _
       ·rw [HX2n.out.1,Tr.bin_mk]
      case measure=>exact HX2n.out.2.2.2
namespace Tr
open Da
theorem LSt.neg{w w4:World}{B bp b2:Nat}{en:Int}{k m p q:Int}{t o oo:List UInt8}{xs:List Ex}{va:Value}{l1:List Tok}{T T':TypeId}(hlo:w.heap.size≤w4.heap.size)(hb2:b2<w4.heap.size)(hr:Rd w bp w4)(hp:PS w4 B bp en l1)(h2:Blk w4 b2 zEx)
  (hi:Is w4 (Iv (b2+1) w4.heap.size) va (.list 6 (exDs xs))) (hlo2:w.heap.size≤b2) :
  LSt w ((w4.alloc (.cells (cEx 13 0 [] oo (.slice (some ⟨w4.heap.size+1,0,none⟩) 1 1) q) T)).alloc (.cells (cEx k m t o va p) T'))
   B bp en b2 w4.heap.size 13 0 [] oo [.mk k m t o xs p] (.slice (some ⟨w4.heap.size+1,0,none⟩) 1 1) q l1:=by
 have hb:Blk ((w4.alloc (.cells (cEx 13 0 [] oo (.slice (some ⟨w4.heap.size+1,0,none⟩) 1 1) q) T)).alloc (.cells (cEx k m t o va p) T')) (w4.heap.size+1) (cEx k m t o va p):=by
  have:=blk_new (w4.alloc (.cells (cEx 13 0 [] oo (.slice (some ⟨w4.heap.size+1,0,none⟩) 1 1) q) T)) (cEx k m t o va p) T'
  simpa using this
 refine⟨rd_alloc (rd_alloc hr _) _,(hp.alloc _).alloc _,(h2.alloc _).alloc _,(blk_new w4 _ T).alloc _,?_⟩
 refine is_one hb ⟨by omega,by simp;omega⟩ (Is.nx_iv ((Is.alloc (Is.alloc hi _) _)) (by omega) ?_)
 intro b hb'
 simp at hb'
 rcases hb' with rfl|rfl
 ·exact .inl (by omega)
 ·exact .inr (Nat.le_refl _)
end Tr
theorem op_some'(en:Int)(l:List Tr.Tok)(ws:List (List UInt8))(o:List UInt8)(cs:Array Value)(T:TypeId)(n B bp:Nat)(ho:Tr.opT ws l=some o)(hcs:cs=(ws.map fun l=>Value.string ⟨l.toArray⟩).toArray)(hn:ws.length=n)(hm:(n:Int)≤1000)(w:World)(b:Nat)(hb:b=w.heap.size)(hp:Tr.PS w B bp en l) :
  Calls Tryz.prog 184 #[.pointer (some ⟨bp,0,none⟩),.slice (some ⟨b,0,none⟩) n n] (w.alloc (.cells cs T)) fun e w'=>e=.returned (.tuple #[.string ⟨o.toArray⟩,.bool true])∧Tr.Rd (w.alloc (.cells cs T)) bp w'∧Tr.PS w' B bp en l.tail:=by
 subst hb;exact op_some w B bp en l ws o cs T n ho hcs hn hm hp
theorem op_none'(en:Int)(l:List Tr.Tok)(ws:List (List UInt8))(cs:Array Value)(T:TypeId)(n B bp:Nat)(ho:Tr.opT ws l=none)(hcs:cs=(ws.map fun l=>Value.string ⟨l.toArray⟩).toArray)(hn:ws.length=n)(hm:(n:Int)≤1000)(w:World)(b:Nat)(hb:b=w.heap.size)(hp:Tr.PS w B bp en l) :
  Calls Tryz.prog 184 #[.pointer (some ⟨bp,0,none⟩),.slice (some ⟨b,0,none⟩) n n] (w.alloc (.cells cs T)) fun e w'=>e=.returned (.tuple #[.string ⟨#[]⟩,.bool false])∧Tr.Rd (w.alloc (.cells cs T)) bp w'∧Tr.PS w' B bp en l:=by
 subst hb;exact op_none w B bp en l ws cs T n ho hcs hn hm hp
theorem simple_any(en:Int)(n:Nat)(F:List Tr.Tok→Tr.R Tr.Ex)(hF:Tr.CF 219 en n F)(hc:∀ l,Tr.Con l (F l)):Tr.CF 183 en n (fun l=>match Tr.opT [[43],[45]] l with
 | some o=>(F l.tail).bind fun a l1=>Tr.binL Tr.addOps F (l.length+1) (.mk 13 0 [] o [a] (Tr.posOf en l)) l1
 | none=>(F l).bind fun a l1=>Tr.binL Tr.addOps F (l.length+1) a l1):=by
 intro w B bp l hl hp
 obtain⟨X,hX⟩:∃ X,X=(match Tr.opT [[43],[45]] l with
  | some o=>(F l.tail).bind fun a l1=>Tr.binL Tr.addOps F (l.length+1) (.mk 13 0 [] o [a] (Tr.posOf en l)) l1
  | none=>(F l).bind fun a l1=>Tr.binL Tr.addOps F (l.length+1) a l1):=⟨_,rfl⟩
 show Calls Tryz.prog 183 #[.pointer (some ⟨bp,0,none⟩)] w (Tr.Res w B bp en (match Tr.opT [[43],[45]] l with
  | some o=>(F l.tail).bind fun a l1=>Tr.binL Tr.addOps F (l.length+1) (.mk 13 0 [] o [a] (Tr.posOf en l)) l1
  | none=>(F l).bind fun a l1=>Tr.binL Tr.addOps F (l.length+1) a l1) (Tr.VEx w.heap.size))
 rw [← hX]
 have HF:=hid hF
 have HCn:=hid hc
 have hB:=hp.size
 have hb:=hp.ptr
 have HP:=hid hp
 have HL:=hid hl
 have hfld:∀(a b c d:Value) (w:World),(Instr.field 40 (.agg #[a,b,c,d]) 3).run Tryz.prog w=.ok d w:=fun _ _ _ _ _=>by kernel_rfl
 obtain⟨kd,t2,n2,q2,hpk⟩:∃ kd t2 n2 q2,Tr.peek en l=(kd,t2,n2,q2):=⟨_,_,_,_,rfl⟩
 have HPk:=hid (fun W hW=>peek_is W B bp en l kd n2 q2 t2 hW hpk)
 have hq2:Tr.posOf en l=q2:=by unfold Tr.posOf;rw [hpk]
 rw [hq2]at hX
 clear hF hc hp hl hpk hq2
 cases ho:Tr.opT [[43],[45]] l with
 | none =>
  have HO:=hid (op_none' en l [[43],[45]] #[.string ⟨#[43]⟩,.string ⟨#[45]⟩] 9 2 B bp ho rfl rfl (by decide))
  rw [ho]at hX
  replace hX:X=(F l).bind fun a l1=>Tr.binL Tr.addOps F (l.length+1) a l1:=hX
  clear ho
  cases hE:F l with
  | no q =>
   have HE:=hid (fun W hW=>Tr.Res.no (HF.out W B bp l HL.out hW) hE)
   rw [hE]at hX
   have HX:=hid (show X=.no q from hX)
   clear hE hX
   go_enter Tryz.func183,Tryz.ntmps183
   go_wp2_with (first
    | (go_at_call 97;(with_reducible refine(HPk.out _ ?_).mono ?_);(focus(exact pT));rintro e w2 ⟨rfl,g2,rfl⟩)
    | (go_at_call 184;(with_reducible refine(HO.out _ _ ?_ ?_).mono ?_);(focus(simp [more_size]));(focus(exact pT));rintro e w3 ⟨rfl,hr3,hp3⟩;replace HR:=hid (show Tr.Rd w bp _ from rd_trans rT hr3);replace HP:=hid hp3;clear hr3 hp3)
    | (go_at_call 219;(with_reducible refine(HE.out _ ?_).mono ?_);(focus(exact(by repeat' ((with_reducible exact HP.out)))));rintro e w4 ⟨rfl,hr⟩;replace HR:=hid (show Tr.Rd w bp _ from rd_trans (by repeat' ((with_reducible exact HR.out))) hr);clear hr))
   exact⟨rfl,HR.out,.inr ⟨_,HX.out,rfl⟩⟩
  | ok a l1 =>
   have HE:=hid (fun W hW=>Tr.Res.ok (HF.out W B bp l HL.out hW) hE)
   obtain⟨t1,tl,hsf⟩:=HCn.out l a l1 hE
   rw [hE]at hX
   have hlen:l.length=tl.length+l1.length+1:=by rw [hsf];simp
   have HLn:=hid (show l1.length<l.length+1∧l1.length≤n by have:=HL.out;omega)
   have HX:=hid (show X=Tr.binL Tr.addOps F (l.length+1) a l1 from hX)
   clear hE hsf hX hlen
   obtain⟨k,m,t,o,xs,p⟩:=a
   go_enter Tryz.func183,Tryz.ntmps183
   go_wp2_with (first
    | (go_at_call 97;(with_reducible refine(HPk.out _ ?_).mono ?_);(focus(exact pT));rintro e w2 ⟨rfl,g2,rfl⟩)
    | (go_at_call 184;(with_reducible refine(HO.out _ _ ?_ ?_).mono ?_);(focus(simp [more_size]));(focus(exact pT));rintro e w3 ⟨rfl,hr3,hp3⟩;replace HR:=hid (show Tr.Rd w bp _ from rd_trans rT hr3);have hs3:=hr3.size;simp [more_size]at hs3;have HX0:=hid ((((blk_new w Tr.zEx 53).more _).alloc _).rd hr3 (by omega));replace HP:=hid hp3;clear hr3 hp3)
    | (go_at_call 219;(with_reducible refine(HE.out _ ?_).mono ?_);(focus(exact(by repeat' ((with_reducible exact HP.out)))));rintro e w4 ⟨hr,hps,v,rfl,va,hv,hva⟩;obtain⟨pa,na,ca,rfl⟩:=Tr.Is.form hva;obtain rfl:v=.agg #[.int .i64 k,.int .i64 m,.string ⟨t.toArray⟩,.string ⟨o.toArray⟩,.slice pa na ca,.int .i64 p]:=hv;replace HR:=hid (show Tr.Rd w bp _ from rd_trans (by repeat' ((with_reducible exact HR.out))) hr);have hs4:=hr.size;have hs5:w.heap.size<w4.heap.size:=(by omega);have HX2:=hid (HX0.out.rd hr (by omega));have HVA:=hid (Tr.Is.fix hva);replace HP:=hid hps;clear hr hps hva))
   have HS:=hid (show Tr.LSt w (w4.alloc (.cells (Tr.cEx k m t o (.slice pa na ca) p) 53)) B bp en w.heap.size w4.heap.size k m t o xs (.slice pa na ca) p l1 from
    ⟨rT,pT,HX2.out.alloc _,blk_new _ _ _,(Tr.Is.nx_iv (lo:=w.heap.size) (S:=[w.heap.size,w4.heap.size]) (Tr.Is.alloc HVA.out _) (by omega) (by intro b hb';simp at hb';omega))⟩)
   have hb3:w.heap.size<w4.heap.size:=by omega
   generalize hW:World.alloc _ _=W at HS ⊢
   clear hW HVA HX2 HX0 HP HR hs3 hs4 hs5 HO HPk
   obtain⟨b3,hb3'⟩:∃ b3,b3=w4.heap.size:=⟨_,rfl⟩
   rw [← hb3']at HS hb3 ⊢
   clear hb3'
   go_loopg [26] l1.length (fun g (_:Value) wr=>∃(k m:Int) (t o:List UInt8) (xs:List Tr.Ex) (va:Value) (p:Int) (lc:List Tr.Tok) (fu:Nat),g=lc.length∧Hid (Tr.LSt w wr B bp en w.heap.size b3 k m t o xs va p lc)∧Hid (X=Tr.binL Tr.addOps F (fu+1) (.mk k m t o xs p) lc∧lc.length≤fu∧lc.length≤n))
   case atStart=>exact⟨_,_,_,_,_,_,_,l1,l.length,rfl,HS,hid ⟨HX.out,by have:=HLn.out;omega,HLn.out.2⟩⟩
   case round =>
    clear HS HX HLn HE
    obtain⟨k,m,t,o,xs,va,p,lc,fu,hg,H,HX⟩:=hrel
    have HG:=hid hg
    obtain⟨pa,na,ca,rfl⟩:=Tr.Is.form H.out.is
    clear hg
    have HR:=hid H.out.rd
    have hlw:=H.out.rd.size
    have hb3w:=H.out.x3.lt
    cases ho:Tr.opT Tr.addOps lc with
    | none =>
     have HO:=hid (op_none wr B bp en lc Tr.addOps #[.string ⟨#[43]⟩,.string ⟨#[45]⟩,.string ⟨#[79,82]⟩] 9 3 ho rfl rfl (by decide) H.out.ps)
     have HXe:=hid (show X=.ok (.mk k m t o xs p) lc by rw [HX.out.1];unfold Tr.binL;rw [ho])
     clear ho HX HG
     go_wp2_with (go_at_call 184;(with_reducible refine(HO.out).mono ?_);rintro e w4 ⟨rfl,hr4,hp4⟩;replace HR:=hid (show Tr.Rd w bp _ from rd_trans rT hr4);have HX2:=hid ((H.out.x2.alloc _).rd hr4 (by omega));have HX3:=hid ((H.out.x3.alloc _).rd hr4 (by omega));have HIS:=hid (Tr.Is.nx_rd (Tr.Is.alloc H.out.is _) hr4 (by omega));have hs4:=hr4.size;simp at hs4;have hl2:=HX2.out.lt;have hl3:=HX3.out.lt;have hx2:=HX2.out.cell;have hf2:=HX2.out.free;have hx3:=HX3.out.cell;have hf3:=HX3.out.free;replace HP:=hid hp4;clear hr4 hp4)
     refine bodyPost_ret (v:=.agg #[.int .i64 k,.int .i64 m,.string ⟨t.toArray⟩,.string ⟨o.toArray⟩,.slice pa na ca,.int .i64 p]) (by simp [results,Tryz.results183,go_sem,hx2,hf2,hx3,hf3]) rfl ?_
     exact⟨Tr.rd_set6 HR.out (.inr (Nat.le_refl _)) _ _ _ _ _ _,.inl ⟨_,_,_,HXe.out,Tr.PS.set6 HP.out hB _ _ _ _ _ _,rfl,_,rfl,Tr.Is.nx_out (Tr.Is.nx_set6 HIS.out (.inl (by simp)) _ _ _ _ _ _)⟩⟩
    | some oo =>
     have HO:=hid (op_some wr B bp en lc Tr.addOps oo #[.string ⟨#[43]⟩,.string ⟨#[45]⟩,.string ⟨#[79,82]⟩] 9 3 ho rfl rfl (by decide) H.out.ps)
     have hne:=Tr.opT_ne ho
     have hlt:lc.tail.length<lc.length:=by cases lc with|nil=>exact absurd rfl hne|cons x y=>simp
     have HLc:=hid (show lc.tail.length≤n∧lc.tail.length<lc.length by have:=HX.out.2.2;omega)
     cases hE:F lc.tail with
     | no q =>
      have HE:=hid (fun W hW=>Tr.Res.no (HF.out W B bp lc.tail HLc.out.1 hW) hE)
      have HXe:=hid (show X=.no q by rw [HX.out.1];unfold Tr.binL;rw [ho];simp only [hE,Tr.R.bind])
      clear ho HX HG hne hlt hE
      go_wp2_with (go_at_call 184;(with_reducible refine(HO.out).mono ?_);rintro e w4 ⟨rfl,hr4,hp4⟩;replace HR:=hid (show Tr.Rd w bp _ from rd_trans rT hr4);have HX2:=hid ((H.out.x2.alloc _).rd hr4 (by omega));have HX3:=hid ((H.out.x3.alloc _).rd hr4 (by omega));have HIS:=hid (Tr.Is.nx_rd (Tr.Is.alloc H.out.is _) hr4 (by omega));have hs4:=hr4.size;simp at hs4;have hl2:=HX2.out.lt;have hl3:=HX3.out.lt;have hx2:=HX2.out.cell;have hf2:=HX2.out.free;have hx3:=HX3.out.cell;have hf3:=HX3.out.free;replace HP:=hid hp4;clear hr4 hp4)
      go_region_dies
      all_goals
       go_wp2_with (go_at_call 219;(with_reducible refine(HE.out _ ?_).mono ?_);(focus(exact pT));rintro e w5 ⟨rfl,hr5⟩;replace HR:=hid (show Tr.Rd w bp _ from rd_trans rT hr5);clear hr5)
       exact⟨rfl,HR.out,.inr ⟨_,HXe.out,rfl⟩⟩
     | ok c l2 =>
      have HE:=hid (fun W hW=>Tr.Res.ok (HF.out W B bp lc.tail HLc.out.1 hW) hE)
      obtain⟨t1,tl,hsf⟩:=HCn.out lc.tail c l2 hE
      have hlen:lc.tail.length=tl.length+l2.length+1:=by rw [hsf];simp
      obtain⟨f2,rfl⟩:∃ f2,fu=f2+1:=⟨fu - 1,by have:=HX.out.2.1;omega⟩
      have HX2n:=hid (show X=Tr.binL Tr.addOps F (f2+1) (Tr.bin oo (.mk k m t o xs p) c) l2∧l2.length≤f2∧l2.length≤n∧l2.length<gk by
       have h1:=HX.out.2.1;have h2:=HX.out.2.2;have h3:=HG.out
       refine⟨?_,by omega,by omega,by omega⟩
       rw [HX.out.1];conv=>lhs;unfold Tr.binL
       rw [ho];simp only [hE,Tr.R.bind])
      clear ho HX HG hne hlt hE hsf hlen
      obtain⟨k',m',t',o',xs',p'⟩:=c
      go_wp2_with (go_at_call 184;(with_reducible refine(HO.out).mono ?_);rintro e w4 ⟨rfl,hr4,hp4⟩;replace HR:=hid (show Tr.Rd w bp _ from rd_trans rT hr4);have HX2:=hid ((H.out.x2.alloc _).rd hr4 (by omega));have HX3:=hid ((H.out.x3.alloc _).rd hr4 (by omega));have HIS:=hid (Tr.Is.nx_rd (Tr.Is.alloc H.out.is _) hr4 (by omega));have hs4:=hr4.size;simp at hs4;have hl2:=HX2.out.lt;have hl3:=HX3.out.lt;have hx2:=HX2.out.cell;have hf2:=HX2.out.free;have hx3:=HX3.out.cell;have hf3:=HX3.out.free;replace HP:=hid hp4;clear hr4 hp4)
      have HBn:=hid (fun pa' na' ca' (u:World)=>binary_any oo k m p k' m' p' t o t' o' (.slice pa na ca) (.slice pa' na' ca') u)
      go_region_with (first
       | (go_at_call 219;(with_reducible refine(HE.out _ ?_).mono ?_);(focus(exact pT));rintro e w5 ⟨hr5,hp5,v,rfl,va',hv,hva⟩;obtain⟨pa',na',ca',rfl⟩:=Tr.Is.form hva;obtain rfl:v=.agg #[.int .i64 k',.int .i64 m',.string ⟨t'.toArray⟩,.string ⟨o'.toArray⟩,.slice pa' na' ca',.int .i64 p']:=hv;have HY2:=hid ((HX2.out.below bT).rd hr5 (by omega));have HY3:=hid ((HX3.out.below bT).rd hr5 (by omega));have HYS:=hid (Tr.Is.nx_rd (HIS.out.later bT) hr5 (by omega));have HYC:=hid (Tr.Is.fix hva);have hz5:=hr5.size;simp at hz5;have hy3:=HY3.out.cell;replace HR:=hid (show Tr.Rd w bp _ from rd_trans rT hr5);replace HP:=hid hp5;clear hr5 hp5 hva)
       | (go_at_call 185;(with_reducible refine(HBn.out _ _ _ _).mono ?_);rintro e w6 ⟨⟨bn,rfl,hbn,hBn⟩,hb6⟩;have HZ2:=hid (HY2.out.below (hb6.mono (by simp)));have HZ3:=hid (HY3.out.below (hb6.mono (by simp)));have hz3:=HZ3.out.cell;have hg3:=HZ3.out.free;have HB6:=hid hb6;have HBN:=hid hBn;clear hb6 hBn))
      all_goals go_wp2
      all_goals
       go_roundg l2.length
       case rel =>
        have hbb:bn ∉ [w.heap.size,b3]:=by simp;omega
        refine⟨14,0,[],oo,[.mk k m t o xs p,.mk k' m' t' o' xs' p'],.slice (some ⟨bn,0,none⟩) 2 2,p,l2,f2,rfl,hid ⟨?_,?_,?_,?_,?_⟩,hid ⟨?_,HX2n.out.2.1,HX2n.out.2.2.1⟩⟩
        ·exact Tr.rd_set6 (Tr.rd_below HR.out HB6.out) (.inr (by omega)) _ _ _ _ _ _
        ·exact Tr.PS.set6 (HP.out.below HB6.out) (by omega) _ _ _ _ _ _
        ·exact Tr.Blk.other6 HZ2.out (by omega) _ _ _ _ _ _
        ·exact Tr.Blk.set6 HZ3.out _ _ _ _ _ _
        ·exact Tr.Is.nx_set6 (Tr.is_two HBN.out ⟨by omega,hbb⟩ (HYS.out.later HB6.out) ((Tr.Is.nx_iv HYC.out (by simp;omega) (by intro b hb';simp at hb' ⊢;omega)).later HB6.out)) (.inl (by simp)) _ _ _ _ _ _
        ·rw [HX2n.out.1,Tr.bin_mk]
       case measure=>exact HX2n.out.2.2.2
 | some oo0 =>
  have HO:=hid (op_some' en l [[43],[45]] oo0 #[.string ⟨#[43]⟩,.string ⟨#[45]⟩] 9 2 B bp ho rfl rfl (by decide))
  have hne:=Tr.opT_ne ho
  have hlt:l.tail.length<l.length:=by cases l with|nil=>exact absurd rfl hne|cons x y=>simp
  have HL1:=hid (show l.tail.length≤n by have:=HL.out;omega)
  rw [ho]at hX
  replace hX:X=(F l.tail).bind fun a l1=>Tr.binL Tr.addOps F (l.length+1) (.mk 13 0 [] oo0 [a] q2) l1:=hX
  clear ho hne
  cases hE:F l.tail with
  | no q =>
   have HE:=hid (fun W hW=>Tr.Res.no (HF.out W B bp l.tail HL1.out hW) hE)
   rw [hE]at hX
   have HX:=hid (show X=.no q from hX)
   clear hE hX hlt
   go_enter Tryz.func183,Tryz.ntmps183
   go_wp2_with (first
    | (go_at_call 97;(with_reducible refine(HPk.out _ ?_).mono ?_);(focus(exact pT));rintro e w2 ⟨rfl,g2,rfl⟩)
    | (go_at_call 184;(with_reducible refine(HO.out _ _ ?_ ?_).mono ?_);(focus(simp [more_size]));(focus(exact pT));rintro e w3 ⟨rfl,hr3,hp3⟩;replace HR:=hid (show Tr.Rd w bp _ from rd_trans rT hr3);replace HP:=hid hp3;clear hr3 hp3)
    | (go_at_call 219;(with_reducible refine(HE.out _ ?_).mono ?_);(focus(exact(by repeat' ((with_reducible exact HP.out)))));rintro e w4 ⟨rfl,hr⟩;replace HR:=hid (show Tr.Rd w bp _ from rd_trans (by repeat' ((with_reducible exact HR.out))) hr);clear hr))
   exact⟨rfl,HR.out,.inr ⟨_,HX.out,rfl⟩⟩
  | ok a l1 =>
   have HE:=hid (fun W hW=>Tr.Res.ok (HF.out W B bp l.tail HL1.out hW) hE)
   obtain⟨t1,tl,hsf⟩:=HCn.out l.tail a l1 hE
   rw [hE]at hX
   have hlen:l.tail.length=tl.length+l1.length+1:=by rw [hsf];simp
   have HLn:=hid (show l1.length<l.length+1∧l1.length≤n by have:=HL.out;omega)
   obtain⟨k,m,t,o,xs,p⟩:=a
   have HX:=hid (show X=Tr.binL Tr.addOps F (l.length+1) (.mk 13 0 [] oo0 [.mk k m t o xs p] q2) l1 from hX)
   clear hE hsf hX hlen hlt
   go_enter Tryz.func183,Tryz.ntmps183
   go_wp2_with (first
    | (go_at_call 97;(with_reducible refine(HPk.out _ ?_).mono ?_);(focus(exact pT));rintro e w2 ⟨rfl,g2,rfl⟩)
    | (go_at_call 184;(with_reducible refine(HO.out _ _ ?_ ?_).mono ?_);(focus(simp [more_size]));(focus(exact pT));rintro e w3 ⟨rfl,hr3,hp3⟩;replace HR:=hid (show Tr.Rd w bp _ from rd_trans rT hr3);have hs3:=hr3.size;simp [more_size]at hs3;have HX0:=hid ((((blk_new w Tr.zEx 53).more _).alloc _).rd hr3 (by omega));replace HP:=hid hp3;clear hr3 hp3)
    | (go_at_call 219;(with_reducible refine(HE.out _ ?_).mono ?_);(focus(exact(by repeat' ((with_reducible exact HP.out)))));rintro e w4 ⟨hr,hps,v,rfl,va,hv,hva⟩;obtain⟨pa,na,ca,rfl⟩:=Tr.Is.form hva;obtain rfl:v=.agg #[.int .i64 k,.int .i64 m,.string ⟨t.toArray⟩,.string ⟨o.toArray⟩,.slice pa na ca,.int .i64 p]:=hv;replace HR:=hid (show Tr.Rd w bp _ from rd_trans (by repeat' ((with_reducible exact HR.out))) hr);have hs4:=hr.size;have hs5:w.heap.size<w4.heap.size:=(by omega);have HX2:=hid (HX0.out.rd hr (by omega));have HVA:=hid (Tr.Is.fix hva);replace HP:=hid hps;clear hr hps hva))
   have HS:=hid (Tr.LSt.neg (oo:=oo0) (q:=q2) (k:=k) (m:=m) (t:=t) (o:=o) (p:=p) (T:=53) (T':=53) (xs:=xs) (by omega) (by omega) HR.out HP.out HX2.out (Tr.Is.wide HVA.out (by omega) (Nat.le_refl _)) (Nat.le_refl _))
   have hb3:w.heap.size<w4.heap.size:=by omega
   generalize hW:World.alloc _ _=W at HS ⊢
   clear hW HVA HX2 HX0 HP HR hs3 hs4 hs5 HO HPk
   obtain⟨b3,hb3'⟩:∃ b3,b3=w4.heap.size:=⟨_,rfl⟩
   rw [← hb3']at HS hb3 ⊢
   clear hb3'
   go_loopg [26] l1.length (fun g (_:Value) wr=>∃(k m:Int) (t o:List UInt8) (xs:List Tr.Ex) (va:Value) (p:Int) (lc:List Tr.Tok) (fu:Nat),g=lc.length∧Hid (Tr.LSt w wr B bp en w.heap.size b3 k m t o xs va p lc)∧Hid (X=Tr.binL Tr.addOps F (fu+1) (.mk k m t o xs p) lc∧lc.length≤fu∧lc.length≤n))
   case atStart=>exact⟨_,_,_,_,_,_,_,l1,l.length,rfl,HS,hid ⟨HX.out,by have:=HLn.out;omega,HLn.out.2⟩⟩
   case round =>
    clear HS HX HLn HE
    obtain⟨k,m,t,o,xs,va,p,lc,fu,hg,H,HX⟩:=hrel
    have HG:=hid hg
    obtain⟨pa,na,ca,rfl⟩:=Tr.Is.form H.out.is
    clear hg
    have HR:=hid H.out.rd
    have hlw:=H.out.rd.size
    have hb3w:=H.out.x3.lt
    cases ho:Tr.opT Tr.addOps lc with
    | none =>
     have HO:=hid (op_none wr B bp en lc Tr.addOps #[.string ⟨#[43]⟩,.string ⟨#[45]⟩,.string ⟨#[79,82]⟩] 9 3 ho rfl rfl (by decide) H.out.ps)
     have HXe:=hid (show X=.ok (.mk k m t o xs p) lc by rw [HX.out.1];unfold Tr.binL;rw [ho])
     clear ho HX HG
     go_wp2_with (go_at_call 184;(with_reducible refine(HO.out).mono ?_);rintro e w4 ⟨rfl,hr4,hp4⟩;replace HR:=hid (show Tr.Rd w bp _ from rd_trans rT hr4);have HX2:=hid ((H.out.x2.alloc _).rd hr4 (by omega));have HX3:=hid ((H.out.x3.alloc _).rd hr4 (by omega));have HIS:=hid (Tr.Is.nx_rd (Tr.Is.alloc H.out.is _) hr4 (by omega));have hs4:=hr4.size;simp at hs4;have hl2:=HX2.out.lt;have hl3:=HX3.out.lt;have hx2:=HX2.out.cell;have hf2:=HX2.out.free;have hx3:=HX3.out.cell;have hf3:=HX3.out.free;replace HP:=hid hp4;clear hr4 hp4)
     refine bodyPost_ret (v:=.agg #[.int .i64 k,.int .i64 m,.string ⟨t.toArray⟩,.string ⟨o.toArray⟩,.slice pa na ca,.int .i64 p]) (by simp [results,Tryz.results183,go_sem,hx2,hf2,hx3,hf3]) rfl ?_
     exact⟨Tr.rd_set6 HR.out (.inr (Nat.le_refl _)) _ _ _ _ _ _,.inl ⟨_,_,_,HXe.out,Tr.PS.set6 HP.out hB _ _ _ _ _ _,rfl,_,rfl,Tr.Is.nx_out (Tr.Is.nx_set6 HIS.out (.inl (by simp)) _ _ _ _ _ _)⟩⟩
    | some oo =>
     have HO:=hid (op_some wr B bp en lc Tr.addOps oo #[.string ⟨#[43]⟩,.string ⟨#[45]⟩,.string ⟨#[79,82]⟩] 9 3 ho rfl rfl (by decide) H.out.ps)
     have hne:=Tr.opT_ne ho
     have hlt:lc.tail.length<lc.length:=by cases lc with|nil=>exact absurd rfl hne|cons x y=>simp
     have HLc:=hid (show lc.tail.length≤n∧lc.tail.length<lc.length by have:=HX.out.2.2;omega)
     cases hE:F lc.tail with
     | no q =>
      have HE:=hid (fun W hW=>Tr.Res.no (HF.out W B bp lc.tail HLc.out.1 hW) hE)
      have HXe:=hid (show X=.no q by rw [HX.out.1];unfold Tr.binL;rw [ho];simp only [hE,Tr.R.bind])
      clear ho HX HG hne hlt hE
      go_wp2_with (go_at_call 184;(with_reducible refine(HO.out).mono ?_);rintro e w4 ⟨rfl,hr4,hp4⟩;replace HR:=hid (show Tr.Rd w bp _ from rd_trans rT hr4);have HX2:=hid ((H.out.x2.alloc _).rd hr4 (by omega));have HX3:=hid ((H.out.x3.alloc _).rd hr4 (by omega));have HIS:=hid (Tr.Is.nx_rd (Tr.Is.alloc H.out.is _) hr4 (by omega));have hs4:=hr4.size;simp at hs4;have hl2:=HX2.out.lt;have hl3:=HX3.out.lt;have hx2:=HX2.out.cell;have hf2:=HX2.out.free;have hx3:=HX3.out.cell;have hf3:=HX3.out.free;replace HP:=hid hp4;clear hr4 hp4)
      go_region_dies
      all_goals
       go_wp2_with (go_at_call 219;(with_reducible refine(HE.out _ ?_).mono ?_);(focus(exact pT));rintro e w5 ⟨rfl,hr5⟩;replace HR:=hid (show Tr.Rd w bp _ from rd_trans rT hr5);clear hr5)
       exact⟨rfl,HR.out,.inr ⟨_,HXe.out,rfl⟩⟩
     | ok c l2 =>
      have HE:=hid (fun W hW=>Tr.Res.ok (HF.out W B bp lc.tail HLc.out.1 hW) hE)
      obtain⟨t1,tl,hsf⟩:=HCn.out lc.tail c l2 hE
      have hlen:lc.tail.length=tl.length+l2.length+1:=by rw [hsf];simp
      obtain⟨f2,rfl⟩:∃ f2,fu=f2+1:=⟨fu - 1,by have:=HX.out.2.1;omega⟩
      have HX2n:=hid (show X=Tr.binL Tr.addOps F (f2+1) (Tr.bin oo (.mk k m t o xs p) c) l2∧l2.length≤f2∧l2.length≤n∧l2.length<gk by
       have h1:=HX.out.2.1;have h2:=HX.out.2.2;have h3:=HG.out
       refine⟨?_,by omega,by omega,by omega⟩
       rw [HX.out.1];conv=>lhs;unfold Tr.binL
       rw [ho];simp only [hE,Tr.R.bind])
      clear ho HX HG hne hlt hE hsf hlen
      obtain⟨k',m',t',o',xs',p'⟩:=c
      go_wp2_with (go_at_call 184;(with_reducible refine(HO.out).mono ?_);rintro e w4 ⟨rfl,hr4,hp4⟩;replace HR:=hid (show Tr.Rd w bp _ from rd_trans rT hr4);have HX2:=hid ((H.out.x2.alloc _).rd hr4 (by omega));have HX3:=hid ((H.out.x3.alloc _).rd hr4 (by omega));have HIS:=hid (Tr.Is.nx_rd (Tr.Is.alloc H.out.is _) hr4 (by omega));have hs4:=hr4.size;simp at hs4;have hl2:=HX2.out.lt;have hl3:=HX3.out.lt;have hx2:=HX2.out.cell;have hf2:=HX2.out.free;have hx3:=HX3.out.cell;have hf3:=HX3.out.free;replace HP:=hid hp4;clear hr4 hp4)
      have HBn:=hid (fun pa' na' ca' (u:World)=>binary_any oo k m p k' m' p' t o t' o' (.slice pa na ca) (.slice pa' na' ca') u)
      go_region_with (first
       | (go_at_call 219;(with_reducible refine(HE.out _ ?_).mono ?_);(focus(exact pT));rintro e w5 ⟨hr5,hp5,v,rfl,va',hv,hva⟩;obtain⟨pa',na',ca',rfl⟩:=Tr.Is.form hva;obtain rfl:v=.agg #[.int .i64 k',.int .i64 m',.string ⟨t'.toArray⟩,.string ⟨o'.toArray⟩,.slice pa' na' ca',.int .i64 p']:=hv;have HY2:=hid ((HX2.out.below bT).rd hr5 (by omega));have HY3:=hid ((HX3.out.below bT).rd hr5 (by omega));have HYS:=hid (Tr.Is.nx_rd (HIS.out.later bT) hr5 (by omega));have HYC:=hid (Tr.Is.fix hva);have hz5:=hr5.size;simp at hz5;have hy3:=HY3.out.cell;replace HR:=hid (show Tr.Rd w bp _ from rd_trans rT hr5);replace HP:=hid hp5;clear hr5 hp5 hva)
       | (go_at_call 185;(with_reducible refine(HBn.out _ _ _ _).mono ?_);rintro e w6 ⟨⟨bn,rfl,hbn,hBn⟩,hb6⟩;have HZ2:=hid (HY2.out.below (hb6.mono (by simp)));have HZ3:=hid (HY3.out.below (hb6.mono (by simp)));have hz3:=HZ3.out.cell;have hg3:=HZ3.out.free;have HB6:=hid hb6;have HBN:=hid hBn;clear hb6 hBn))
      all_goals go_wp2
      all_goals
       go_roundg l2.length
       case rel =>
        have hbb:bn ∉ [w.heap.size,b3]:=by simp;omega
        refine⟨14,0,[],oo,[.mk k m t o xs p,.mk k' m' t' o' xs' p'],.slice (some ⟨bn,0,none⟩) 2 2,p,l2,f2,rfl,hid ⟨?_,?_,?_,?_,?_⟩,hid ⟨?_,HX2n.out.2.1,HX2n.out.2.2.1⟩⟩
        ·exact Tr.rd_set6 (Tr.rd_below HR.out HB6.out) (.inr (by omega)) _ _ _ _ _ _
        ·exact Tr.PS.set6 (HP.out.below HB6.out) (by omega) _ _ _ _ _ _
        ·exact Tr.Blk.other6 HZ2.out (by omega) _ _ _ _ _ _
        ·exact Tr.Blk.set6 HZ3.out _ _ _ _ _ _
        ·exact Tr.Is.nx_set6 (Tr.is_two HBN.out ⟨by omega,hbb⟩ (HYS.out.later HB6.out) ((Tr.Is.nx_iv HYC.out (by simp;omega) (by intro b hb';simp at hb' ⊢;omega)).later HB6.out)) (.inl (by simp)) _ _ _ _ _ _
        ·rw [HX2n.out.1,Tr.bin_mk]
       case measure=>exact HX2n.out.2.2.2
theorem expr_any(en:Int)(n:Nat)(F:List Tr.Tok→Tr.R Tr.Ex)(hF:Tr.CF 183 en n F)(hc:∀ l,Tr.Con l (F l)):Tr.CF 147 en n (fun l=>(F l).bind fun a l1=>match Tr.opT Tr.relOps l1 with|some o=>(F l1.tail).bind fun c l2 => .ok (Tr.bin o a c) l2|none => .ok a l1):=by
 intro w B bp l hl hp
 obtain⟨X,hX⟩:∃ X,X=(F l).bind fun a l1=>match Tr.opT Tr.relOps l1 with|some o=>(F l1.tail).bind fun c l2 => .ok (Tr.bin o a c) l2|none => .ok a l1:=⟨_,rfl⟩
 show Calls Tryz.prog 147 #[.pointer (some ⟨bp,0,none⟩)] w (Tr.Res w B bp en ((F l).bind fun a l1=>match Tr.opT Tr.relOps l1 with|some o=>(F l1.tail).bind fun c l2 => .ok (Tr.bin o a c) l2|none => .ok a l1) (Tr.VEx w.heap.size))
 rw [← hX]
 have HF:=hid hF
 have HCn:=hid hc
 have hB:=hp.size
 have hb:=hp.ptr
 have HP:=hid hp
 have HL:=hid hl
 clear hF hc hp hl
 cases hE:F l with
 | no q =>
  have HE:=hid (fun W hW=>Tr.Res.no (HF.out W B bp l HL.out hW) hE)
  rw [hE]at hX
  have HX:=hid (show X=.no q from hX)
  clear hE hX
  go_enter Tryz.func147,Tryz.ntmps147
  go_wp2_with (go_at_call 183;(with_reducible refine(HE.out _ ?_).mono ?_);(focus(exact pT));rintro e w2 ⟨rfl,hr⟩;replace HR:=hid (show Tr.Rd w bp _ from rd_trans rT hr);clear hr)
  exact⟨rfl,HR.out,.inr ⟨_,HX.out,rfl⟩⟩
 | ok a l1 =>
  have HE:=hid (fun W hW=>Tr.Res.ok (HF.out W B bp l HL.out hW) hE)
  obtain⟨t1,tl,hsf⟩:=HCn.out l a l1 hE
  rw [hE]at hX
  have hlen:l.length=tl.length+l1.length+1:=by rw [hsf];simp
  have HLn:=hid (show l1.tail.length≤n by rw [List.length_tail];have:=HL.out;omega)
  replace hX:X=match Tr.opT Tr.relOps l1 with|some o=>(F l1.tail).bind fun c l2 => .ok (Tr.bin o a c) l2|none => .ok a l1:=hX
  clear hE hsf hlen
  obtain⟨k,m,t,o,xs,p⟩:=a
  cases ho:Tr.opT Tr.relOps l1 with
  | none =>
   have HO:=hid (op_none' en l1 Tr.relOps #[.string ⟨#[61]⟩,.string ⟨#[35]⟩,.string ⟨#[60]⟩,.string ⟨#[60,61]⟩,.string ⟨#[62]⟩,.string ⟨#[62,61]⟩,.string ⟨#[73,78]⟩,.string ⟨#[73,83]⟩] 9 8 B bp ho rfl rfl (by decide))
   rw [ho]at hX
   have HX:=hid (show X=.ok (.mk k m t o xs p) l1 from hX)
   clear ho hX
   go_enter Tryz.func147,Tryz.ntmps147
   go_wp2_with (first
    | (go_at_call 183;(with_reducible refine(HE.out _ ?_).mono ?_);(focus(exact pT));rintro e w2 ⟨hr,hps,v,rfl,va,hv,hva⟩;obtain⟨pa,na,ca,rfl⟩:=Tr.Is.form hva;obtain rfl:v=.agg #[.int .i64 k,.int .i64 m,.string ⟨t.toArray⟩,.string ⟨o.toArray⟩,.slice pa na ca,.int .i64 p]:=hv;replace HR:=hid (show Tr.Rd w bp _ from rd_trans rT hr);have hs2:=hr.size;simp at hs2;have hs3:w.heap.size<w2.heap.size:=(by omega);have HX2:=hid ((blk_new w Tr.zEx 53).rd hr (by omega));have HVA:=hid (Tr.Is.fix hva);replace HP:=hid hps;clear hr hps hva)
    | (go_at_call 184;(with_reducible refine(HO.out _ _ ?_ ?_).mono ?_);(focus(simp));(focus(exact pT));rintro e w4 ⟨rfl,hr4,hp4⟩;replace HR:=hid (show Tr.Rd w bp _ from rd_trans rT hr4);have HY2:=hid ((HX2.out.below bT).rd hr4 (by omega));have HY3:=hid ((((blk_new w2 (Tr.cEx k m t o (.slice pa na ca) p) 53).alloc _)).rd hr4 (by omega));have HYS:=hid (Tr.Is.rd (HVA.out.later bT) hr4 (by simp;omega));have hs4:=hr4.size;simp at hs4;have hl2:=HY2.out.lt;have hl3:=HY3.out.lt;have hx2:=HY2.out.cell;have hf2:=HY2.out.free;have hx3:=HY3.out.cell;have hf3:=HY3.out.free;replace HP:=hid hp4;clear hr4 hp4))
   refine bodyPost_ret (v:=.agg #[.int .i64 k,.int .i64 m,.string ⟨t.toArray⟩,.string ⟨o.toArray⟩,.slice pa na ca,.int .i64 p]) (by simp [results,Tryz.results147,go_sem,hx2,hf2,hx3,hf3]) rfl ?_
   exact⟨Tr.rd_set6 HR.out (.inr (Nat.le_refl _)) _ _ _ _ _ _,.inl ⟨_,_,_,HX.out,Tr.PS.set6 HP.out hB _ _ _ _ _ _,rfl,_,rfl,Tr.Is.nx_out (Tr.Is.nx_set6 (Tr.Is.nx_iv (lo:=w.heap.size) (S:=[w.heap.size]) HYS.out (by simp) (by intro b hb';simp at hb' ⊢;omega)) (.inl (by simp)) _ _ _ _ _ _)⟩⟩
  | some oo =>
   have HO:=hid (op_some' en l1 Tr.relOps oo #[.string ⟨#[61]⟩,.string ⟨#[35]⟩,.string ⟨#[60]⟩,.string ⟨#[60,61]⟩,.string ⟨#[62]⟩,.string ⟨#[62,61]⟩,.string ⟨#[73,78]⟩,.string ⟨#[73,83]⟩] 9 8 B bp ho rfl rfl (by decide))
   rw [ho]at hX
   replace hX:X=(F l1.tail).bind fun c l2 => .ok (Tr.bin oo (.mk k m t o xs p) c) l2:=hX
   clear ho
   cases hE2:F l1.tail with
   | no q =>
    have HE2:=hid (fun W hW=>Tr.Res.no (HF.out W B bp l1.tail HLn.out hW) hE2)
    rw [hE2]at hX
    have HX:=hid (show X=.no q from hX)
    clear hE2 hX
    go_enter Tryz.func147,Tryz.ntmps147
    go_wp2_with (first
     | (go_at_call 183;(with_reducible refine(HE.out _ ?_).mono ?_);(focus(exact pT));rintro e w2 ⟨hr,hps,v,rfl,va,hv,hva⟩;obtain⟨pa,na,ca,rfl⟩:=Tr.Is.form hva;obtain rfl:v=.agg #[.int .i64 k,.int .i64 m,.string ⟨t.toArray⟩,.string ⟨o.toArray⟩,.slice pa na ca,.int .i64 p]:=hv;replace HR:=hid (show Tr.Rd w bp _ from rd_trans rT hr);have hs2:=hr.size;simp at hs2;have hs3:w.heap.size<w2.heap.size:=(by omega);have HX2:=hid ((blk_new w Tr.zEx 53).rd hr (by omega));have HVA:=hid (Tr.Is.fix hva);replace HP:=hid hps;clear hr hps hva)
     | (go_at_call 184;(with_reducible refine(HO.out _ _ ?_ ?_).mono ?_);(focus(simp));(focus(exact pT));rintro e w4 ⟨rfl,hr4,hp4⟩;replace HR:=hid (show Tr.Rd w bp _ from rd_trans rT hr4);have HY2:=hid ((HX2.out.below bT).rd hr4 (by omega));have HY3:=hid ((((blk_new w2 (Tr.cEx k m t o (.slice pa na ca) p) 53).alloc _)).rd hr4 (by omega));have HYS:=hid (Tr.Is.rd (HVA.out.later bT) hr4 (by simp;omega));have hs4:=hr4.size;simp at hs4;have hl2:=HY2.out.lt;have hl3:=HY3.out.lt;have hx2:=HY2.out.cell;have hf2:=HY2.out.free;have hx3:=HY3.out.cell;have hf3:=HY3.out.free;replace HP:=hid hp4;clear hr4 hp4))
    go_region_dies
    all_goals
     go_wp2_with (go_at_call 183;(with_reducible refine(HE2.out _ ?_).mono ?_);(focus(exact pT));rintro e w5 ⟨rfl,hr5⟩;replace HR:=hid (show Tr.Rd w bp _ from rd_trans rT hr5);clear hr5)
     exact⟨rfl,HR.out,.inr ⟨_,HX.out,rfl⟩⟩
   | ok c l2 =>
    have HE2:=hid (fun W hW=>Tr.Res.ok (HF.out W B bp l1.tail HLn.out hW) hE2)
    rw [hE2]at hX
    have HX:=hid (show X=.ok (Tr.bin oo (.mk k m t o xs p) c) l2 from hX)
    clear hE2 hX
    obtain⟨k',m',t',o',xs',p'⟩:=c
    go_enter Tryz.func147,Tryz.ntmps147
    go_wp2_with (first
     | (go_at_call 183;(with_reducible refine(HE.out _ ?_).mono ?_);(focus(exact pT));rintro e w2 ⟨hr,hps,v,rfl,va,hv,hva⟩;obtain⟨pa,na,ca,rfl⟩:=Tr.Is.form hva;obtain rfl:v=.agg #[.int .i64 k,.int .i64 m,.string ⟨t.toArray⟩,.string ⟨o.toArray⟩,.slice pa na ca,.int .i64 p]:=hv;replace HR:=hid (show Tr.Rd w bp _ from rd_trans rT hr);have hs2:=hr.size;simp at hs2;have hs3:w.heap.size<w2.heap.size:=(by omega);have HX2:=hid ((blk_new w Tr.zEx 53).rd hr (by omega));have HVA:=hid (Tr.Is.fix hva);replace HP:=hid hps;clear hr hps hva)
     | (go_at_call 184;(with_reducible refine(HO.out _ _ ?_ ?_).mono ?_);(focus(simp));(focus(exact pT));rintro e w4 ⟨rfl,hr4,hp4⟩;replace HR:=hid (show Tr.Rd w bp _ from rd_trans rT hr4);have HY2:=hid ((HX2.out.below bT).rd hr4 (by omega));have HY3:=hid ((((blk_new w2 (Tr.cEx k m t o (.slice pa na ca) p) 53).alloc _)).rd hr4 (by omega));have HYS:=hid (Tr.Is.rd (HVA.out.later bT) hr4 (by simp;omega));have hs4:=hr4.size;simp at hs4;have hl2:=HY2.out.lt;have hl3:=HY3.out.lt;have hx2:=HY2.out.cell;have hf2:=HY2.out.free;have hx3:=HY3.out.cell;have hf3:=HY3.out.free;replace HP:=hid hp4;clear hr4 hp4))
    have HBn:=hid (fun pa' na' ca' (u:World)=>binary_any oo k m p k' m' p' t o t' o' (.slice pa na ca) (.slice pa' na' ca') u)
    go_region_with (first
     | (go_at_call 183;(with_reducible refine(HE2.out _ ?_).mono ?_);(focus(exact pT));rintro e w5 ⟨hr5,hp5,v,rfl,va',hv,hva⟩;obtain⟨pa',na',ca',rfl⟩:=Tr.Is.form hva;obtain rfl:v=.agg #[.int .i64 k',.int .i64 m',.string ⟨t'.toArray⟩,.string ⟨o'.toArray⟩,.slice pa' na' ca',.int .i64 p']:=hv;have HZ2:=hid ((HY2.out.below bT).rd hr5 (by omega));have HZ3:=hid ((HY3.out.below bT).rd hr5 (by omega));have HZS:=hid (Tr.Is.rd (HYS.out.later bT) hr5 (by simp;omega));have HYC:=hid (Tr.Is.fix hva);have hz5:=hr5.size;simp at hz5;have hy3:=HZ3.out.cell;replace HR:=hid (show Tr.Rd w bp _ from rd_trans rT hr5);replace HP:=hid hp5;clear hr5 hp5 hva)
     | (go_at_call 185;(with_reducible refine(HBn.out _ _ _ _).mono ?_);rintro e w6 ⟨⟨bn,rfl,hbn,hBn⟩,hb6⟩;have HU2:=hid (HZ2.out.below (hb6.mono (by simp)));have HU3:=hid (HZ3.out.below (hb6.mono (by simp)));have hu2:=HU2.out.cell;have hg2:=HU2.out.free;have hz3:=HU3.out.cell;have hg3:=HU3.out.free;have hl6:=HU2.out.lt;have hl7:=HU3.out.lt;have HB6:=hid hb6;have HBN:=hid hBn;clear hb6 hBn))
    all_goals
     have hbb:bn ∉ [w.heap.size,w2.heap.size]:=by simp;omega
     have hne:w2.heap.size ≠ w.heap.size:=by omega
     generalize hW:World.setCell _ _ _=W
     have HR7:=hid (show Tr.Rd w bp W by rw [← hW];exact Tr.rd_set6 (Tr.rd_below HR.out HB6.out) (.inr (by omega)) _ _ _ _ _ _)
     have HP7:=hid (show Tr.PS W B bp en l2 by rw [← hW];exact Tr.PS.set6 (HP.out.below HB6.out) (by omega) _ _ _ _ _ _)
     have HV2:=hid (show Tr.Blk W w.heap.size Tr.zEx by rw [← hW];exact Tr.Blk.other6 HU2.out hne _ _ _ _ _ _)
     have HV3:=hid (show Tr.Blk W w2.heap.size (Tr.cEx 14 0 [] oo (.slice (some ⟨bn,0,none⟩) 2 2) p)by rw [← hW];exact Tr.Blk.set6 HU3.out _ _ _ _ _ _)
     have HVI:=hid (show Da.Is W (Tr.Nx w.heap.size [w.heap.size,w2.heap.size]) (.slice (some ⟨bn,0,none⟩) 2 2) (.list 6 (exDs [.mk k m t o xs p,.mk k' m' t' o' xs' p']))by
      rw [← hW]
      exact Tr.Is.nx_set6 (Tr.is_two HBN.out ⟨by omega,hbb⟩ ((Tr.Is.nx_iv HZS.out (by simp) (by intro b hb';simp at hb' ⊢;omega)).later HB6.out) ((Tr.Is.nx_iv HYC.out (by simp;omega) (by intro b hb';simp at hb' ⊢;omega)).later HB6.out)) (.inl (by simp)) _ _ _ _ _ _)
     clear hW HU2 HU3 hu2 hg2 hz3 hg3 hl6 hl7 HZ2 HZ3 HY2 HY3 HX2 hx2 hf2 hx3 hf3 hy3 hl2 hl3
     have hl2:=HV2.out.lt
     have hl3:=HV3.out.lt
     have hx2:=HV2.out.cell
     have hf2:=HV2.out.free
     have hx3:=HV3.out.cell
     have hf3:=HV3.out.free
     go_wp2
     refine bodyPost_ret (v:=.agg #[.int .i64 14,.int .i64 0,.string ⟨#[]⟩,.string ⟨oo.toArray⟩,.slice (some ⟨bn,0,none⟩) 2 2,.int .i64 p]) (by simp [results,Tryz.results147,go_sem,hx2,hf2,hx3,hf3]) rfl ?_
     exact⟨Tr.rd_set6 HR7.out (.inr (Nat.le_refl _)) _ _ _ _ _ _,.inl ⟨_,_,_,HX.out,Tr.PS.set6 HP7.out hB _ _ _ _ _ _,rfl,_,rfl,Tr.Is.nx_out (Tr.Is.nx_set6 HVI.out (.inl (by simp)) _ _ _ _ _ _)⟩⟩
namespace Tr
open Da
def LoopX{α:Type}(w:List UInt8)(F:List Tok→R α)(acc:List α)(more:Bool)(l:List Tok)(fu:Nat):R (List α):=if more then(manyC w F (fu+1) l).bind fun r l2 => .ok (acc++r) l2 else .ok acc l
def meas(more:Bool)(l:List Tok):Nat:=if more then l.length+1 else 0
theorem loopx_start{α:Type}(w:List UInt8)(F:List Tok→R α)(l:List Tok)(n:Nat):manyC w F (n+1) l=LoopX w F [] true l n:=by
 unfold LoopX
 simp only [if_true,List.nil_append]
 cases manyC w F (n+1) l <;> rfl
theorem loopx_no{α:Type}{w:List UInt8}{F:List Tok→R α}{acc:List α}{l:List Tok}{fu:Nat}{q:Int}(h:F l=.no q):LoopX w F acc true l fu=.no q:=by
 unfold LoopX manyC
 simp only [if_true,h,R.bind]
theorem loopx_end{α:Type}(w:List UInt8)(F:List Tok→R α)(acc:List α)(l:List Tok)(fu:Nat):LoopX w F acc false l fu=.ok acc l:=by simp [LoopX]
theorem took_ok{w:List UInt8}{l:List Tok}(h:isS w l=true):(took w l).2=l.tail:=by unfold took;rw [h];rfl
theorem took_no{w:List UInt8}{l:List Tok}(h:isS w l=false):(took w l).2=l:=by unfold took;rw [h];rfl
theorem tail_lt{l:List Tok}(h:l ≠ []):l.tail.length<l.length:=by cases l with|nil=>exact absurd rfl h|cons x y=>simp
theorem took_len(w:List UInt8)(l:List Tok):(took w l).2.length≤l.length:=by
 unfold took;split <;> simp
theorem loopx_ok{α:Type}{w:List UInt8}{F:List Tok→R α}{acc:List α}{l l1:List Tok}{fu:Nat}{a:α}(h:F l=.ok a l1)(hf:l.length≤fu)(hs:l1.length<l.length) :
  ∃ fu',LoopX w F acc true l fu=LoopX w F (acc++[a]) (isS w l1) (took w l1).2 fu'∧(took w l1).2.length≤fu':=by
 cases hb:isS w l1 with
 | true =>
  have hne:=tail_lt (tl_ne hb)
  obtain⟨f2,rfl⟩:∃ f2,fu=f2+1:=⟨fu - 1,by omega⟩
  refine⟨f2,?_,by rw [took_ok hb];omega⟩
  rw [took_ok hb]
  unfold LoopX
  conv=>lhs;unfold manyC
  simp only [if_true,h,R.bind,hb]
  cases manyC w F (f2+1) l1.tail with
  | no q=>rfl
  | ok r l2=>simp
 | false =>
  refine⟨l1.length,?_,by rw [took_no hb];exact Nat.le_refl _⟩
  rw [took_no hb]
  unfold LoopX manyC
  simp [h,R.bind,hb]
theorem meas_lt{w:List UInt8}{l l1:List Tok}(hs:l1.length<l.length):meas (isS w l1) (took w l1).2<meas true l:=by
 unfold meas
 cases hb:isS w l1 with
 | true=>rw [took_ok hb];have:=tail_lt (tl_ne hb);simp only [if_true];omega
 | false=>simp
def Grew(bs:Nat)(w w':World):Prop:=∃ row:Option Nat,w.grownBy w' row∧∀ k,row=some k→bs≤k
theorem rd_grew{w w1 w2:World}{bp bs:Nat}(h:Rd w bp w1)(hg:Grew bs w1 w2)(hb:w.heap.size≤bs):Rd w bp w2:=
 let ⟨_,hg,hr⟩:=hg;rd_grown h hg fun k hk=>Nat.le_trans hb (hr k hk)
theorem PS.grew{w w':World}{B bp bs:Nat}{en:Int}{l:List Tok}(h:PS w B bp en l)(hg:Grew bs w w')(hb:B≤bs):PS w' B bp en l:=
 let ⟨_,hg,hr⟩:=hg;h.grown hg fun k hk=>Nat.le_trans hb (hr k hk)
theorem Blk.grew{w w':World}{b bs:Nat}{cs:Array Value}(h:Blk w b cs)(hg:Grew bs w w')(hb:b<bs):Blk w' b cs:=
 let ⟨_,hg,hr⟩:=hg;h.grown hg fun e=>by have:=hr b e;omega
theorem own_lt{w:World}{B:Nat}{vs:List Value}{e:TypeId}{size:Nat}{v:Value}{rows:List (List D)}(h:Own w B vs e size v rows):∀ b,v.ownBlock=some b→B≤b∧b<w.heap.size:=by
 obtain⟨_,xs,ho,_⟩:=h
 exact fun b hb=>ho.lt b hb
structure LL(w wr:World)(B bp:Nat)(en:Int)(bs:Nat)(T:TypeId)(size:Nat)(v:Value)(rows:List (List D))(lc:List Tok):Prop where
 rd:Rd w bp wr
 ps:PS wr B bp en lc
 own:Own wr bs [] T size v rows
 lo:w.heap.size≤bs
 hi:bs≤wr.heap.size
theorem Own.out{w:World}{bs lo:Nat}{T:TypeId}{size:Nat}{v:Value}{rows:List (List D)}(h:Own w bs [] T size v rows)(hl:lo≤bs):Is w (fun b=>lo≤b) v (.list size rows):=h.is.mono fun _ hb=>Nat.le_trans hl hb.1
theorem is_av{w:World}{bs lo:Nat}{u v:Value}{d:D}(h:Is w (fun b=>lo≤b) v d)(hb:bs≤lo)(hu:∀ b,u.ownBlock=some b→b<lo):Is w (Av bs [u]) v d:=
 h.mono fun b h=>⟨Nat.le_trans hb h,fun v hv e=>by simp at hv;subst hv;have:=hu b e;omega⟩
theorem took_yes(en:Int)(l:List Tok)(tx:List UInt8)(B bp:Nat)(h:isS tx l=true)(w:World)(hp:PS w B bp en l) :
  Calls Tryz.prog 100 #[.pointer (some ⟨bp,0,none⟩),.string ⟨tx.toArray⟩] w fun e w'=>e=.returned (.bool true)∧Rd w bp w'∧PS w' B bp en l.tail:=by
 have:=took_any w B bp en l tx hp
 rw [h,took_ok h]at this
 exact this
theorem took_not(en:Int)(l:List Tok)(tx:List UInt8)(B bp:Nat)(h:isS tx l=false)(w:World)(hp:PS w B bp en l) :
  Calls Tryz.prog 100 #[.pointer (some ⟨bp,0,none⟩),.string ⟨tx.toArray⟩] w fun e w'=>e=.returned (.bool false)∧Rd w bp w'∧PS w' B bp en l:=by
 have:=took_any w B bp en l tx hp
 rw [h,took_no h]at this
 exact this
theorem info_expr:(Tryz.prog.info? 53).map (fun i=>(i.zero,i.size,i.bytes))=some (some (.agg zEx),6,80):=by kernel_rfl
theorem exDs_app(xs ys:List Ex):exDs (xs++ys)=exDs xs++exDs ys:=by rw [exDs_map,exDs_map,exDs_map,List.map_append]
theorem exDs_len(xs:List Ex):(exDs xs).length=xs.length:=by rw [exDs_map,List.length_map]
theorem app_ex{ops:Array Oper}{rest:List Oper}{o:Oper}{a:Act}{Q:Exit→Act→World→Prop}{w:World}(hgd:o.guard=none)(s x:Operand)(ho:o.op=.call { callee:=.builtin .append,args:=#[s,x],argTypes:=#[47,47] })
  (wr:World) (bs:Nat) (acc:List Ex) (v:Value) (hs:a.eval s=v) (hown:Own wr bs [] 53 6 v (exDs acc)) (bp:Nat) (hbp:bp<bs) (hq:Rd wr bp w) (k m:Int) (t oo:List UInt8) (xs:List Ex) (va:Value) (p:Int) (b:Nat)
  (hx:a.eval x=.slice (some ⟨b,0,none⟩) 1 1) (hB:Blk w b (cEx k m t oo va p)) (hi:Is w (fun c=>wr.heap.size≤c) va (.list 6 (exDs xs))) (hbs:bs≤wr.heap.size) (hacc:acc.length<6000)
  (h:∀ v' w',Own w' bs [] 53 6 v' (exDs (acc++[.mk k m t oo xs p]))→Grew bs w w'→wpList Tryz.prog ops Q rest (a.put o.dst v') w'):wpList Tryz.prog ops Q (o::rest) a w:=by
 obtain⟨i0,hi0,hz0,hz1,hz2⟩:=info_parts info_expr
 have ho2:=Own.beside hown hbp hq
 have hlt:=own_lt hown
 refine wpList_append_rows hgd s x 47 ho bs [] 53 i0 (.agg zEx) 6 80 Tryz.underlying47 hi0 hz0 hz1 hz2 rfl (by decide) v (exDs acc) hs ho2 b 1 1 _ (exDs [.mk k m t oo xs p]) hx (reads_blk (n:=1) (size:=6) hB rfl (by decide)) (by rw [exDs_len];rfl)
  (fun row hr=>by simp [exDs]at hr;rw [hr,exD_len]) ?_ (by decide) (by rw [exDs_len];unfold maxLen;omega) (by rw [exDs_len];omega) (Nat.le_trans hbs hq.size) ?_
 ·simp only [exDs,List.flatten_cons,List.flatten_nil,List.append_nil]
  exact row_ex (is_av hi hbs fun b hb=>(hlt b hb).2)
 ·intro v' w' h1 h2 h3
  rw [← exDs_app]at h1
  exact h v' w' h1 ⟨_,h2,fun k hk=>(hlt k hk).1⟩
end Tr
namespace Tr
open Da
def lab(E:List Tok→R Ex)(l:List Tok):R Ex:=(E l).bind fun a l1=>if isS [46,46] l1 then(E l1.tail).bind fun c l2 => .ok (.mk 7 0 [] [] [a,c] (exPos a)) l2 else .ok a l1
theorem labels_lab(E:List Tok→R Ex)(l:List Tok):labelsP E l=LoopX comma (lab E) [] true l l.length:=loopx_start comma (lab E) l l.length
def VExs(lo:Nat)(w:World)(v:Value)(xs:List Ex):Prop:=Is w (fun b=>lo≤b) v (.list 6 (exDs xs))
theorem lab_no{E:List Tok→R Ex}{l:List Tok}{q:Int}(h:E l=.no q):lab E l=.no q:=by unfold lab;rw [h];rfl
theorem lab_one{E:List Tok→R Ex}{l l1:List Tok}{a:Ex}(h:E l=.ok a l1)(hd:isS [46,46] l1=false):lab E l=.ok a l1:=by unfold lab;rw [h];simp [R.bind,hd]
theorem lab_no2{E:List Tok→R Ex}{l l1:List Tok}{a:Ex}{q:Int}(h:E l=.ok a l1)(hd:isS [46,46] l1=true)(h2:E l1.tail=.no q):lab E l=.no q:=by unfold lab;rw [h];simp [R.bind,hd,h2]
theorem lab_two{E:List Tok→R Ex}{l l1 l2:List Tok}{a c:Ex}(h:E l=.ok a l1)(hd:isS [46,46] l1=true)(h2:E l1.tail=.ok c l2):lab E l=.ok (.mk 7 0 [] [] [a,c] (exPos a)) l2:=by unfold lab;rw [h];simp [R.bind,hd,h2]
end Tr
theorem labels_any(en:Int)(n:Nat)(E:List Tr.Tok→Tr.R Tr.Ex)(hF:Tr.CF 147 en n E)(hc:∀ l,Tr.Con l (E l))(w:World)(B bp:Nat)(l:List Tr.Tok)(hl:l.length≤n)(hp:Tr.PS w B bp en l) :
  Calls Tryz.prog 222 #[.pointer (some ⟨bp,0,none⟩)] w (Tr.Res w B bp en (Tr.labelsP E l) (Tr.VExs w.heap.size)):=by
 obtain⟨X,hX⟩:∃ X,X=Tr.labelsP E l:=⟨_,rfl⟩
 rw [← hX]
 rw [Tr.labels_lab]at hX
 have HF:=hid hF
 have HCn:=hid hc
 have hB:=hp.size
 have hb:=hp.ptr
 have HS:=hid (show Tr.LL w w B bp en w.heap.size 53 6 (.slice none 0 0) (exDs []) l from⟨Tr.rd_refl _ _,hp,Da.own_nil _ _ _ _ _,Nat.le_refl _,Nat.le_refl _⟩)
 have HX:=hid (show X=Tr.LoopX Tr.comma (Tr.lab E) [] true l l.length∧l.length≤l.length∧l.length≤n∧([]:List Tr.Ex).length+l.length≤6000 by have:=hp.len;exact⟨hX,Nat.le_refl _,hl,by simpa using this⟩)
 clear hF hc hp hl hX
 go_enter Tryz.func222,Tryz.ntmps222
 go_wp2
 go_loopg [3,4] (Tr.meas true l) (fun g v3 v4 wr=>∃(acc:List Tr.Ex) (more:Bool) (lc:List Tr.Tok) (fu:Nat),g=Tr.meas more lc∧v4=.bool more∧Hid (Tr.LL w wr B bp en w.heap.size 53 6 v3 (exDs acc) lc)∧Hid (X=Tr.LoopX Tr.comma (Tr.lab E) acc more lc fu∧lc.length≤fu∧lc.length≤n∧acc.length+lc.length≤6000))
 case atStart=>exact⟨[],true,l,l.length,rfl,rfl,HS,HX⟩
 case round =>
  clear HS HX
  obtain⟨acc,more,lc,fu,hg,hm,H,HX⟩:=hrel
  subst hm
  cases more with
  | false =>
   have HXe:=hid (show X=.ok acc lc by rw [HX.out.1,Tr.loopx_end])
   clear HX hg
   go_wp2
   go_ret
   exact⟨H.out.rd,.inl ⟨_,_,_,HXe.out,H.out.ps,rfl,Tr.Own.out H.out.own (Nat.le_refl _)⟩⟩
  | true =>
   have HG:=hid hg
   clear hg
   have HP:=hid H.out.ps
   have hlw:=H.out.rd.size
   have HQ:=hid (Tr.rd_refl wr bp)
   cases hE:E lc with
   | no q =>
    have HE:=hid (fun W hW=>Tr.Res.no (HF.out W B bp lc HX.out.2.2.1 hW) hE)
    have HXe:=hid (show X=.no q by rw [HX.out.1];exact Tr.loopx_no (Tr.lab_no hE))
    clear HX hE
    go_wp2_with (go_at_call 147;(with_reducible refine(HE.out _ ?_).mono ?_);(focus(exact(by repeat' ((with_reducible exact HP.out)))));rintro e w5 ⟨rfl,hr5⟩;replace HQ:=hid (show Tr.Rd wr bp _ from rd_trans (by repeat' ((with_reducible exact HQ.out))) hr5);clear hr5)
    exact⟨rfl,rd_trans H.out.rd HQ.out,.inr ⟨_,HXe.out,rfl⟩⟩
   | ok a l1 =>
    have HE:=hid (fun W hW=>Tr.Res.ok (HF.out W B bp lc HX.out.2.2.1 hW) hE)
    obtain⟨t1,tl,hsf⟩:=HCn.out lc a l1 hE
    have hlen:lc.length=tl.length+l1.length+1:=by rw [hsf];simp
    have HLn:=hid (show l1.length<lc.length by omega)
    clear hsf hlen
    obtain⟨k,m,t,o,xs,p⟩:=a
    cases hd:Tr.isS [46,46] l1 with
    | false =>
     have HT1:=hid (Tr.took_not en l1 [46,46] B bp hd)
     have HT2:=hid (fun W hW=>took_any W B bp en l1 [44] hW)
     have HXn:=hid (show ∃ fu',X=Tr.LoopX Tr.comma (Tr.lab E) (acc++[.mk k m t o xs p]) (Tr.isS Tr.comma l1) (Tr.took Tr.comma l1).2 fu'∧(Tr.took Tr.comma l1).2.length≤fu'∧(Tr.took Tr.comma l1).2.length≤n∧(acc++[Tr.Ex.mk k m t o xs p]).length+(Tr.took Tr.comma l1).2.length≤6000 by
      obtain⟨fu',h1,h2⟩:=Tr.loopx_ok (w:=Tr.comma) (acc:=acc) (Tr.lab_one hE hd) HX.out.2.1 HLn.out
      have h3:=Tr.took_len Tr.comma l1
      have h4:=HLn.out
      have h5:=HX.out.2.2
      exact⟨fu',HX.out.1.trans h1,h2,by omega,by simp;omega⟩)
     have HAc:=hid (show acc.length<6000 by have h4:=HLn.out;have h5:=HX.out.2.2;omega)
     clear HX hE hd
     go_wp2_with (first
      | (go_at_call 147;(with_reducible refine(HE.out _ ?_).mono ?_);(focus(exact(by repeat' ((with_reducible exact HP.out)))));rintro e w5 ⟨hr5,hp5,v,rfl,va,hv,hva⟩;obtain⟨pa,na,ca,rfl⟩:=Tr.Is.form hva;obtain rfl:v=.agg #[.int .i64 k,.int .i64 m,.string ⟨t.toArray⟩,.string ⟨o.toArray⟩,.slice pa na ca,.int .i64 p]:=hv;replace HQ:=hid (show Tr.Rd wr bp _ from rd_trans (by repeat' ((with_reducible exact HQ.out))) hr5);have hs5:=hr5.size;have HVA:=hid (Tr.Is.fix hva);replace HP:=hid hp5;clear hr5 hp5 hva)
      | (go_at_call 100;(with_reducible refine(HT1.out _ ?_).mono ?_);(focus(exact pT));rintro e w6 ⟨rfl,hr6,hp6⟩;replace HQ:=hid (show Tr.Rd wr bp _ from rd_trans qT hr6);have HX5:=hid ((blk_new w5 (Tr.cEx k m t o (.slice pa na ca) p) 53).rd hr6 (by omega));have HVB:=hid (Tr.Is.rd (HVA.out.later bT) hr6 (by omega));have hs6:=hr6.size;simp at hs6;have hl5:=HX5.out.lt;have hx5:=HX5.out.cell;have hf5:=HX5.out.free;replace HP:=hid hp6;clear hr6 hp6)
      | (at_builtin;go_loud ((refine Tr.app_ex rfl _ _ rfl wr w.heap.size acc _ rfl H.out.own bp (by omega) (by exact qT) k m t o xs (.slice pa na ca) p _ rfl (Tr.blk_at (by simp) _ _) ((Tr.Is.open HVB.out (Nat.le_refl _)).later bT) H.out.hi HAc.out ?_);intro v7 w7 hown7 hgrew7;have HR:=hid (show Tr.Rd w bp w7 from Tr.rd_grew (rd_trans H.out.rd qT) hgrew7 (Nat.le_refl _));have HO7:=hid hown7;replace HP:=hid (show Tr.PS w7 B bp en l1 from Tr.PS.grew pT hgrew7 (by omega));clear hown7 hgrew7))
      | (go_at_call 100;(with_reducible refine(HT2.out _ ?_).mono ?_);(focus(exact HP.out));rintro e w8 ⟨rfl,hr8,hp8⟩;have HR8:=hid (rd_trans HR.out hr8);have HO8:=hid (Da.Own.beside HO7.out (by omega) hr8);have HP8:=hid hp8;clear hr8 hp8))
     obtain⟨fu',h1,h2,h3,h4⟩:=HXn.out
     go_roundg (Tr.meas (Tr.isS [44] l1) (Tr.took [44] l1).2)
     case rel=>exact⟨_,_,_,fu',rfl,rfl,hid ⟨HR8.out,HP8.out,HO8.out,Nat.le_refl _,HR8.out.size⟩,hid ⟨h1,h2,h3,h4⟩⟩
     case measure=>rw [HG.out];exact Tr.meas_lt HLn.out
    | true =>
     have HT1:=hid (Tr.took_yes en l1 [46,46] B bp hd)
     have HL1:=hid (show l1.tail.length≤n by have h4:=HLn.out;have h5:=HX.out.2.2;rw [List.length_tail];omega)
     cases hE2:E l1.tail with
     | no q =>
      have HE2:=hid (fun W hW=>Tr.Res.no (HF.out W B bp l1.tail HL1.out hW) hE2)
      have HXe:=hid (show X=.no q by rw [HX.out.1];exact Tr.loopx_no (Tr.lab_no2 hE hd hE2))
      clear HX hE hd hE2
      go_wp2_with (first
       | (go_at_call 147;(with_reducible refine(HE.out _ ?_).mono ?_);(focus(exact(by repeat' ((with_reducible exact HP.out)))));rintro e w5 ⟨hr5,hp5,v,rfl,va,hv,hva⟩;obtain⟨pa,na,ca,rfl⟩:=Tr.Is.form hva;obtain rfl:v=.agg #[.int .i64 k,.int .i64 m,.string ⟨t.toArray⟩,.string ⟨o.toArray⟩,.slice pa na ca,.int .i64 p]:=hv;replace HQ:=hid (show Tr.Rd wr bp _ from rd_trans (by repeat' ((with_reducible exact HQ.out))) hr5);have hs5:=hr5.size;have HVA:=hid (Tr.Is.fix hva);replace HP:=hid hp5;clear hr5 hp5 hva)
       | (go_at_call 100;(with_reducible refine(HT1.out _ ?_).mono ?_);(focus(exact pT));rintro e w6 ⟨rfl,hr6,hp6⟩;replace HQ:=hid (show Tr.Rd wr bp _ from rd_trans qT hr6);have HX5:=hid ((blk_new w5 (Tr.cEx k m t o (.slice pa na ca) p) 53).rd hr6 (by omega));have HVB:=hid (Tr.Is.rd (HVA.out.later bT) hr6 (by omega));have hs6:=hr6.size;simp at hs6;have hl5:=HX5.out.lt;have hx5:=HX5.out.cell;have hf5:=HX5.out.free;replace HP:=hid hp6;clear hr6 hp6))
      go_region_dies
      all_goals
       go_wp2_with (go_at_call 147;(with_reducible refine(HE2.out _ ?_).mono ?_);(focus(exact pT));rintro e w7 ⟨rfl,hr7⟩;replace HQ:=hid (show Tr.Rd wr bp _ from rd_trans qT hr7);clear hr7)
       exact⟨rfl,rd_trans H.out.rd HQ.out,.inr ⟨_,HXe.out,rfl⟩⟩
     | ok c l2 =>
      have HE2:=hid (fun W hW=>Tr.Res.ok (HF.out W B bp l1.tail HL1.out hW) hE2)
      obtain⟨t1,tl,hsf⟩:=HCn.out l1.tail c l2 hE2
      have hlen:l1.tail.length=tl.length+l2.length+1:=by rw [hsf];simp
      have HL2:=hid (show l2.length<lc.length by have:=HLn.out;rw [List.length_tail]at hlen;omega)
      clear hsf hlen
      obtain⟨k',m',t',o',xs',p'⟩:=c
      have HT2:=hid (fun W hW=>took_any W B bp en l2 [44] hW)
      have HXn:=hid (show ∃ fu',X=Tr.LoopX Tr.comma (Tr.lab E) (acc++[.mk 7 0 [] [] [.mk k m t o xs p,.mk k' m' t' o' xs' p'] p]) (Tr.isS Tr.comma l2) (Tr.took Tr.comma l2).2 fu'∧(Tr.took Tr.comma l2).2.length≤fu'∧(Tr.took Tr.comma l2).2.length≤n∧(acc++[Tr.Ex.mk 7 0 [] [] [.mk k m t o xs p,.mk k' m' t' o' xs' p'] p]).length+(Tr.took Tr.comma l2).2.length≤6000 by
       obtain⟨fu',h1,h2⟩:=Tr.loopx_ok (w:=Tr.comma) (acc:=acc) (Tr.lab_two hE hd hE2) HX.out.2.1 HL2.out
       have h3:=Tr.took_len Tr.comma l2
       have h4:=HL2.out
       have h5:=HX.out.2.2
       exact⟨fu',HX.out.1.trans h1,h2,by omega,by simp;omega⟩)
      have HAc:=hid (show acc.length<6000 by have h4:=HL2.out;have h5:=HX.out.2.2;omega)
      clear HX hE hd hE2
      go_wp2_with (first
       | (go_at_call 147;(with_reducible refine(HE.out _ ?_).mono ?_);(focus(exact(by repeat' ((with_reducible exact HP.out)))));rintro e w5 ⟨hr5,hp5,v,rfl,va,hv,hva⟩;obtain⟨pa,na,ca,rfl⟩:=Tr.Is.form hva;obtain rfl:v=.agg #[.int .i64 k,.int .i64 m,.string ⟨t.toArray⟩,.string ⟨o.toArray⟩,.slice pa na ca,.int .i64 p]:=hv;replace HQ:=hid (show Tr.Rd wr bp _ from rd_trans (by repeat' ((with_reducible exact HQ.out))) hr5);have hs5:=hr5.size;have HVA:=hid (Tr.Is.fix hva);replace HP:=hid hp5;clear hr5 hp5 hva)
       | (go_at_call 100;(with_reducible refine(HT1.out _ ?_).mono ?_);(focus(exact pT));rintro e w6 ⟨rfl,hr6,hp6⟩;replace HQ:=hid (show Tr.Rd wr bp _ from rd_trans qT hr6);have HX5:=hid ((blk_new w5 (Tr.cEx k m t o (.slice pa na ca) p) 53).rd hr6 (by omega));have HVB:=hid (Tr.Is.rd (HVA.out.later bT) hr6 (by omega));have hs6:=hr6.size;simp at hs6;have hl5:=HX5.out.lt;have hx5:=HX5.out.cell;have hf5:=HX5.out.free;replace HP:=hid hp6;clear hr6 hp6))
      go_region_with (go_at_call 147;(with_reducible refine(HE2.out _ ?_).mono ?_);(focus(exact pT));rintro e w7 ⟨hr7,hp7,v,rfl,va',hv,hva⟩;obtain⟨pa',na',ca',rfl⟩:=Tr.Is.form hva;obtain rfl:v=.agg #[.int .i64 k',.int .i64 m',.string ⟨t'.toArray⟩,.string ⟨o'.toArray⟩,.slice pa' na' ca',.int .i64 p']:=hv;replace HQ:=hid (show Tr.Rd wr bp _ from rd_trans qT hr7);have HY5:=hid ((HX5.out.below bT).rd hr7 (by omega));have HVC:=hid (Tr.Is.rd (HVB.out.later bT) hr7 (by omega));have hs7:=hr7.size;simp at hs7;have HVD:=hid (Tr.Is.fix hva);have hl5:=HY5.out.lt;have hx5:=HY5.out.cell;have hf5:=HY5.out.free;replace HP:=hid hp7;clear hr7 hp7 hva)
      all_goals
       have hbb:w7.heap.size ∉ [w5.heap.size]:=by simp;omega
       generalize hW:World.alloc _ _=W
       replace HQ:=hid (show Tr.Rd wr bp W by rw [← hW];exact Tr.rd_alloc (Tr.rd_set6 HQ.out (.inr (by omega)) _ _ _ _ _ _) _)
       replace HP:=hid (show Tr.PS W B bp en l2 by rw [← hW];exact(Tr.PS.set6 HP.out (by omega) _ _ _ _ _ _).alloc _)
       have HU5:=hid (show Tr.Blk W w5.heap.size (Tr.cEx 7 0 [] [] (.slice (some ⟨w7.heap.size,0,none⟩) 2 2) p)by rw [← hW];exact(Tr.Blk.set6 HY5.out _ _ _ _ _ _).alloc _)
       have HVE:=hid (show Da.Is W (fun c=>wr.heap.size≤c) (.slice (some ⟨w7.heap.size,0,none⟩) 2 2) (.list 6 (exDs [.mk k m t o xs p,.mk k' m' t' o' xs' p']))by
        rw [← hW]
        exact Tr.Is.nx_out (lo:=wr.heap.size) (S:=[w5.heap.size]) (Tr.is_two (Tr.blk_at (by simp) _ _) ⟨by omega,hbb⟩ (Tr.Is.alloc (Tr.Is.nx_set6 (Tr.Is.nx_iv HVC.out (Nat.le_refl _) (by intro b hb';simp at hb';omega)) (.inl (by simp)) _ _ _ _ _ _) _) (Tr.Is.alloc (Tr.Is.nx_set6 (Tr.Is.nx_iv HVD.out (by simp;omega) (by intro b hb';simp at hb' ⊢;omega)) (.inl (by simp)) _ _ _ _ _ _) _)))
       clear hW HY5 HVC HVD HVB HX5 HVA hx5 hf5 hl5
       have hl5:=HU5.out.lt
       have hx5:=HU5.out.cell
       have hf5:=HU5.out.free
       have hsW:=HQ.out.size
       go_wp2_with (first
        | (at_builtin;go_loud ((refine Tr.app_ex rfl _ _ rfl wr w.heap.size acc _ rfl H.out.own bp (by omega) (by exact qT) 7 0 [] [] [.mk k m t o xs p,.mk k' m' t' o' xs' p'] (.slice (some ⟨w7.heap.size,0,none⟩) 2 2) p _ rfl (Tr.blk_at (by simp) _ _) (HVE.out.later bT) H.out.hi HAc.out ?_);intro v8 w8 hown8 hgrew8;have HR:=hid (show Tr.Rd w bp w8 from Tr.rd_grew (rd_trans H.out.rd qT) hgrew8 (Nat.le_refl _));have HO8:=hid hown8;replace HP:=hid (show Tr.PS w8 B bp en l2 from Tr.PS.grew pT hgrew8 (by omega));clear hown8 hgrew8))
        | (go_at_call 100;(with_reducible refine(HT2.out _ ?_).mono ?_);(focus(exact HP.out));rintro e w9 ⟨rfl,hr9,hp9⟩;have HR9:=hid (rd_trans HR.out hr9);have HO9:=hid (Da.Own.beside HO8.out (by omega) hr9);have HP9:=hid hp9;clear hr9 hp9))
       obtain⟨fu',h1,h2,h3,h4⟩:=HXn.out
       go_roundg (Tr.meas (Tr.isS [44] l2) (Tr.took [44] l2).2)
       case rel=>exact⟨_,_,_,fu',rfl,rfl,hid ⟨HR9.out,HP9.out,HO9.out,Nat.le_refl _,HR9.out.size⟩,hid ⟨h1,h2,h3,h4⟩⟩
       case measure=>rw [HG.out];exact Tr.meas_lt HL2.out
end Go.Proofs.YtlhmkfcbldghfaaGreatDoor
