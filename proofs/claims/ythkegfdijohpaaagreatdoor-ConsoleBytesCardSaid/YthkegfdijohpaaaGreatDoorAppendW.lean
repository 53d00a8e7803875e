/- A slice that reads as a list of cells: what stays of it when memory is made,and where it comes from. append: a slice of the call's own,and behind it what a slice reads as. Conditions: lengths and bytes lie in their bounds. -/
import Derived.Test.YthkegfdijohpaaaGreatDoorMoreX
import Derived.Laws.AppendOwn
import Derived.Laws.OwnMore
import Derived.Laws.AppendOwnNone
import Derived.OwnWalk
namespace Go.Proofs.YthkegfdijohpaaaGreatDoor
set_option linter.all false
open Go.RowKit
def Reads(w:World)(v:Value)(n size:Nat)(xs:List Value):Prop:=
 xs.length=n * size∧((n=0∧∃ a cap,v=.slice a 0 cap∧cap≤maxLen)∨∃ b off cap,v=.slice (some ⟨b,off,none⟩) n cap∧n≤cap∧cap≤maxLen∧b<w.heap.size∧∀ j u,xs[j]?=some u→w.cell? ⟨b,off+j,none⟩=some u)
theorem Reads.keep{w w':World}{v:Value}{n size:Nat}{xs:List Value}(h:Reads w v n size xs)(hs:w.heap.size≤w'.heap.size)(hk:∀ b o,b<w.heap.size→w'.cell? ⟨b,o,none⟩=w.cell? ⟨b,o,none⟩):Reads w' v n size xs:=by
 refine⟨h.1,?_⟩
 rcases h.2 with h|⟨b,off,cap,h1,h2,h3,h4,h5⟩
 ·exact .inl h
 ·exact .inr ⟨b,off,cap,h1,h2,h3,by omega,fun j u hu=>by rw [hk b _ h4];exact h5 j u hu⟩
theorem Reads.more{w:World}{v:Value}{n size:Nat}{xs:List Value}(h:Reads w v n size xs)(g:Came):Reads (more w g) v n size xs:=
 h.keep (by simp [more_size]) fun b o hb=>more_cell w g b o hb
theorem Reads.below{w w':World}{v:Value}{n size:Nat}{xs:List Value}(h:Reads w v n size xs)(hb:Below w.heap.size w w'):Reads w' v n size xs:=
 h.keep hb.size fun b o h=>hb.cell (p:=⟨b,o,none⟩) h
theorem Reads.alloc{w:World}{v:Value}{n size:Nat}{xs:List Value}(h:Reads w v n size xs)(o:Obj):Reads (w.alloc o) v n size xs:=
 h.below ((Below.refl _ _).alloc (Nat.le_refl _) _)
theorem Reads.drew{w:World}{v:Value}{n size:Nat}{xs:List Value}(h:Reads w v n size xs):Reads w.drew v n size xs:=
 h.below (Below.refl _ _).drew
theorem reads_nil(w:World)(size:Nat):Reads w (.slice none 0 0) 0 size []:=⟨by simp,.inl ⟨rfl,none,0,rfl,by decide⟩⟩
theorem Reads.of_owns{w:World}{base:Nat}{e:TypeId}{v:Value}{n size:Nat}{xs:List Value}(h:w.ownsRow base e size v n xs):Reads w v n size xs:=by
 have hc:=fun g=>h.cells (g:=g)
 refine⟨h.1,?_⟩
 rcases h.2 with⟨rfl,rfl⟩|⟨g,cap,cur,rfl,_,hg,hn,hm,_⟩
 ·exact .inl ⟨rfl,none,0,rfl,by decide⟩
 ·refine .inr ⟨g,0,cap,rfl,hn,hm,(Array.getElem?_eq_some_iff.1 hg).1,fun j u hu=>?_⟩
  have:=hc g rfl j u hu
  rwa [show(⟨g,0,none⟩:Addr).add j=⟨g,0+j,none⟩from by unfold Addr.add;split <;> simp_all]at this
theorem Reads.cell{w:World}{v:Value}{n size:Nat}{xs:List Value}{b off cap:Nat}(h:∀ j u,xs[j]?=some u→w.cell? ⟨b,off+j,none⟩=some u){j:Nat}{u:Value}(hu:xs[j]?=some u)(o:Nat)(ho:o=off+j):w.cell? ⟨b,o,none⟩=some u:=by
 subst ho;exact h j u hu
theorem more_alloc(w:World)(g:Came)(o:Obj):(Go.Proofs.YthkegfdijohpaaaGreatDoor.more w g).alloc o=Go.Proofs.YthkegfdijohpaaaGreatDoor.more w ⟨g.o.push o,g.d⟩:=by
 simp [Go.Proofs.YthkegfdijohpaaaGreatDoor.more,World.alloc,Array.push_append]
section
variable {P:Program} {w:World}
theorem run_append_none(base:Nat)(t ty e:TypeId)(i:TypeInfo)(size:Nat)(ht:P.underlying t=some (.slice e))(hi:P.info? e=some i)(v:Value)(n:Nat)(xs:List Value)(hown:w.ownsRow base e size v n xs)(c:Nat) :
  (Builtin.append_ #[t,t] ty #[v,.slice none 0 c]).run P w=.ok v w:=by
 rcases hown.2 with⟨rfl,rfl⟩|⟨g,cap,cur,rfl,_,_,hnc,_⟩
 ·simp [Builtin.append_,run_underlying ht,sizeOf,typeInfo,hi,Builtin.lenOf,Builtin.firstCells]
 ·simp [Builtin.append_,run_underlying ht,sizeOf,typeInfo,hi,Builtin.lenOf,Builtin.firstCells,hnc,storeCells]
theorem run_append_reads(base:Nat)(t ty e:TypeId)(i:TypeInfo)(z:Value)(size bytes:Nat)(ht:P.underlying t=some (.slice e))(hi:P.info? e=some i)(hz:i.zero=some z)(hsize:i.size=size)(hby:i.bytes=bytes)(hzs:z.cells.size=size)(hsz:0<size)
  (v:Value) (n:Nat) (xs:List Value) (hown:w.ownsRow base e size v n xs) (u:Value) (m:Nat) (ys:List Value) (hR:Reads w u m size ys) (h1:∀ x∈ys,x.oneCell'=true)
  (h63:n+m≤maxLen) (hbytes:(n+m) * bytes≤140737488355328) (hbase:base≤w.heap.size) :
  ∃ v' w',(Builtin.append_ #[t,t] ty #[v,u]).run P w=.ok v' w'∧w'.ownsRow base e size v' (n+m) (xs++ys)∧w.grownBy w' v.ownBlock:=by
 have hrefl:w.grownBy w v.ownBlock:=⟨rfl,rfl,rfl,Nat.le_refl _,fun _ _ _=>rfl⟩
 have some_case:∀(a:Addr) (c:Nat),(∀ j x,ys[j]?=some x→w.cell? (a.add j)=some x)→u=.slice (some a) m c →
   ∃ v' w',(Builtin.append_ #[t,t] ty #[v,u]).run P w=.ok v' w'∧w'.ownsRow base e size v' (n+m) (xs++ys)∧w.grownBy w' v.ownBlock:=by
  intro a c hc hu
  subst hu
  obtain⟨v',w',h1',h2,h3,h4⟩:=run_append_own (P:=P) w base t ty e i z size bytes ht hi hz hsize hby hzs hsz v n xs hown a m c ys hR.1 hc h1 h63 hbytes hbase
  exact⟨v',w',h1',h2,h3⟩
 rcases hR.2 with⟨hm0,a,c,hu,hc⟩|⟨b,off,cap,hu,h2,h3,h4,h5⟩
 ·subst hm0
  have hy:ys=[]:=List.eq_nil_of_length_eq_zero (by have:=hR.1;omega)
  cases a with
  | none =>
   subst hu;subst hy
   exact⟨v,w,run_append_none base t ty e i size ht hi v n xs hown c,by simpa using hown,hrefl⟩
  | some a=>exact some_case a c (by subst hy;simp) hu
 ·refine some_case ⟨b,off,none⟩ cap (fun j x hx=>?_) hu
  have:=h5 j x hx
  unfold Addr.add
  split
  ·rename_i h;rw [h]at this;exact this
  ·exact this
theorem wpList_append_reads{ops:Array Oper}{rest:List Oper}{o:Oper}{a:Act}{Q:Exit→Act→World→Prop}(hgd:o.guard=none)(s x:Operand)(t:TypeId)
  (ho:o.op=.call { callee:=.builtin .append,args:=#[s,x],argTypes:=#[t,t] })
  (base:Nat) (e:TypeId) (i:TypeInfo) (z:Value) (size bytes:Nat) (ht:P.underlying t=some (.slice e)) (hi:P.info? e=some i) (hz:i.zero=some z) (hsize:i.size=size) (hby:i.bytes=bytes) (hzs:z.cells.size=size) (hsz:0<size)
  (v:Value) (n:Nat) (xs:List Value) (hs:a.eval s=v) (hown:w.ownsRow base e size v n xs) (u:Value) (m:Nat) (ys:List Value) (hx:a.eval x=u) (hR:Reads w u m size ys) (h1:∀ x∈ys,x.oneCell'=true)
  (h63:n+m≤maxLen) (hbytes:(n+m) * bytes≤140737488355328) (hbase:base≤w.heap.size)
  (h:∀ v' w',w'.ownsRow base e size v' (n+m) (xs++ys)→w.grownBy w' v.ownBlock→wpList P ops Q rest (a.put o.dst v') w'):wpList P ops Q (o::rest) a w:=by
 refine wpList_plain hgd fun K hK=>?_
 obtain⟨v',w',hr,h2,h3⟩:=run_append_reads (P:=P) base t o.type e i z size bytes ht hi hz hsize hby hzs hsz v n xs hown u m ys hR h1 h63 hbytes hbase
 unfold Oper.wp
 simp [execOp,ho,resolve,invoke,builtin,hs,hx,hr,Result.andThen]
 exact hK _ _ (h v' w' h2 h3)
end
theorem below_grown{base:Nat}{w0 w w':World}{row:Option Nat}(hb:Below base w0 w)(hw:base≤w.heap.size)(hg:w.grownBy w' row)(hrow:∀ k,row=some k→base≤k):Below base w0 w':=
 hb.trans ⟨hg.os,hg.tape,hg.output,hg.size,fun k hk=>hg.block k (by omega) (fun e=>by have:=hrow k e.symm;omega)⟩
theorem owns_rows{w:World}{base:Nat}{e:TypeId}{size:Nat}{v:Value}{n:Nat}{xs:List Value}(h:w.ownsRow base e size v n xs):∀ k,v.ownBlock=some k→base≤k:=fun k hk=>(h.lt k hk).1
theorem reads_lit(w:World)(cs:Array Value)(e:TypeId)(n size:Nat)(hm:n≤maxLen)(hs:cs.size=n * size):Reads (w.alloc (.cells cs e)) (.slice (some ⟨w.heap.size,0,none⟩) n n) n size cs.toList:=
 Reads.of_owns (World.ownsRow_lit (base:=w.heap.size) (e:=e) w cs n (Nat.le_refl _) hm hs)
theorem owns_empty(w:World)(base:Nat)(e:TypeId)(size:Nat)(hb:base≤w.heap.size):(w.alloc (.cells #[] e)).ownsRow base e size (.slice (some ⟨w.heap.size,0,none⟩) 0 0) 0 []:=
 World.ownsRow_made w #[] 0 hb (by decide) (by simp)
section
variable {P:Program} {w:World}
theorem run_append_where(base:Nat)(t ty e:TypeId)(i:TypeInfo)(z:Value)(size bytes:Nat)(ht:P.underlying t=some (.slice e))(hi:P.info? e=some i)(hz:i.zero=some z)
  (hsize:i.size=size) (hby:i.bytes=bytes) (hzs:z.cells.size=size) (hsz:0<size)
  (v:Value) (n:Nat) (xs:List Value) (hown:w.ownsRow base e size v n xs)
  (a:Addr) (m c:Nat) (news:List Value) (hl:news.length=m * size) (hnews:∀ j u,news[j]?=some u→w.cell? (a.add j)=some u) (h1:∀ u∈news,u.oneCell'=true)
  (hm0:0<m) (h63:n+m≤maxLen) (hbytes:(n+m) * bytes≤140737488355328) (hbase:base≤w.heap.size) :
  ∃ v' w',(Builtin.append_ #[t,t] ty #[v,.slice (some a) m c]).run P w=.ok v' w'∧w'.ownsRow base e size v' (n+m) (xs++news)∧w.grownBy w' v.ownBlock ∧
   (∀ g,v'.ownBlock=some g→v.ownBlock=some g∨w.heap.size≤g):=by
 obtain⟨v',w',hr,h2,h3,-⟩:=run_append_own (P:=P) w base t ty e i z size bytes ht hi hz hsize hby hzs hsz v n xs hown a m c news hl hnews h1 h63 hbytes hbase
 refine⟨v',w',hr,h2,h3,?_⟩
 subst hsize
 subst hby
 have hsmall:n+m≤9223372036854775807:=by simp only [maxLen]at h63;omega
 have key:∀(g:Nat) (k:Nat) (cp:Nat) (w2:World),(Builtin.append_ #[t,t] ty #[v,.slice (some a) m c]).run P w=.ok (.slice (some ⟨g,0,none⟩) k cp) w2→v'.ownBlock=some g:=by
  intro g k cp w2 h
  rw [hr]at h
  simp only [Result.ok.injEq]at h
  rw [h.1];rfl
 intro g hg
 rcases hown.2 with⟨rfl,rfl⟩|⟨g0,cap,cur,rfl,hbg,hg0,hnc,hcm,hcs,htake⟩
 ·have:=key _ _ _ _ (run_append_nil (P:=P) w t ty e i z ht hi hz a m c news hl hnews hm0 (by omega) (by have hb:=hbytes;simp only [Nat.zero_add]at hb;omega))
  rw [hg]at this
  simp only [Option.some.injEq]at this
  exact .inr (by omega)
 ·by_cases hroom:n+m≤cap
  ·have hfit:n * i.size+news.length≤cur.size:=by rw [hl,hcs,← Nat.add_mul];exact Nat.mul_le_mul_right _ hroom
   have:=key _ _ _ _ (run_append_room (P:=P) w t ty e i ht hi g0 n cap cur hg0 a m c news hl hnews h1 hroom hfit)
   rw [hg]at this
   simp only [Option.some.injEq]at this
   subst this
   exact .inl rfl
  ·have holds:∀ j u,xs[j]?=some u→w.cell? ((⟨g0,0,none⟩:Addr).add j)=some u:=hown.cells (g:=g0) rfl
   have:=key _ _ _ _ (run_append_grow (P:=P) w t ty e i z ht hi hz ⟨g0,0,none⟩ n cap xs hown.1 holds a m c news hl hnews (by omega) (by omega) (growslice_fits (by omega) hbytes))
   rw [hg]at this
   simp only [Option.some.injEq]at this
   exact .inr (by omega)
theorem wpList_append_where{ops:Array Oper}{rest:List Oper}{o:Oper}{a:Act}{Q:Exit→Act→World→Prop}(hgd:o.guard=none)(s x:Operand)(t:TypeId)
  (ho:o.op=.call { callee:=.builtin .append,args:=#[s,x],argTypes:=#[t,t] })
  (base:Nat) (e:TypeId) (i:TypeInfo) (z:Value) (size bytes:Nat) (ht:P.underlying t=some (.slice e)) (hi:P.info? e=some i) (hz:i.zero=some z) (hsize:i.size=size) (hby:i.bytes=bytes) (hzs:z.cells.size=size) (hsz:0<size)
  (v:Value) (n:Nat) (xs:List Value) (hs:a.eval s=v) (hown:w.ownsRow base e size v n xs) (p m c:Nat) (ys:List Value) (hx:a.eval x=.slice (some ⟨p,0,none⟩) m c) (hR:Reads w (.slice (some ⟨p,0,none⟩) m c) m size ys) (h1:∀ x∈ys,x.oneCell'=true)
  (hm0:0<m) (h63:n+m≤maxLen) (hbytes:(n+m) * bytes≤140737488355328) (hbase:base≤w.heap.size)
  (h:∀ v' w',w'.ownsRow base e size v' (n+m) (xs++ys)→w.grownBy w' v.ownBlock→(∀ g,v'.ownBlock=some g→v.ownBlock=some g∨w.heap.size≤g)→wpList P ops Q rest (a.put o.dst v') w'):wpList P ops Q (o::rest) a w:=by
 have hnews:∀ j u,ys[j]?=some u→w.cell? ((⟨p,0,none⟩:Addr).add j)=some u:=by
  intro j u hu
  rcases hR.2 with⟨h0,-⟩|⟨b,off,cap,he,-,-,-,hc⟩
  ·omega
  ·simp only [Value.slice.injEq,Option.some.injEq,Addr.mk.injEq]at he
   obtain⟨⟨rfl,rfl,-⟩,-,-⟩:=he
   have:=hc j u hu
   unfold Addr.add
   split
   ·rename_i h;rw [h]at this;exact this
   ·exact this
 refine wpList_plain hgd fun K hK=>?_
 obtain⟨v',w',hr,h2,h3,h4⟩:=run_append_where (P:=P) base t o.type e i z size bytes ht hi hz hsize hby hzs hsz v n xs hown ⟨p,0,none⟩ m c ys hR.1 hnews h1 hm0 h63 hbytes hbase
 unfold Oper.wp
 simp [execOp,ho,resolve,invoke,builtin,hs,hx,hr,Result.andThen]
 exact hK _ _ (h v' w' h2 h3 h4)
end
theorem owns_down{w:World}{base base':Nat}{e:TypeId}{size:Nat}{v:Value}{n:Nat}{xs:List Value}(h:w.ownsRow base e size v n xs)(hb:base'≤base):w.ownsRow base' e size v n xs:=
 ⟨h.1,by
  rcases h.2 with h|⟨g,cap,cur,h1,h2,h3⟩
  ·exact .inl h
  ·exact .inr ⟨g,cap,cur,h1,Nat.le_trans hb h2,h3⟩⟩
theorem Reads.grown{w w':World}{row:Option Nat}{v:Value}{n size:Nat}{xs:List Value}(h:Reads w v n size xs)(hg:w.grownBy w' row)(hne:∀ b,v.ownBlock=some b→row ≠ some b):Reads w' v n size xs:=by
 refine⟨h.1,?_⟩
 rcases h.2 with h|⟨b,off,cap,h1,h2,h3,h4,h5⟩
 ·exact .inl h
 ·refine .inr ⟨b,off,cap,h1,h2,h3,Nat.lt_of_lt_of_le h4 hg.size,fun j u hu=>?_⟩
  rw [World.cell?_of_block (hg.block b h4 (fun e=>hne b (by rw [h1];rfl) e.symm))]
  exact h5 j u hu
end Go.Proofs.YthkegfdijohpaaaGreatDoor
