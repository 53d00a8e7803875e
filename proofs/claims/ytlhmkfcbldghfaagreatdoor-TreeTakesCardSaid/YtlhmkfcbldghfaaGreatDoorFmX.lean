/- Data in the world,and lists of it that a call is making: what holds of them while the world grows,while one of the lists grows,and what append makes of them. Conditions: lengths and bytes lie in their bounds. -/
import Derived.Test.YtlhmkfcbldghfaaGreatDoorAppendW
import Derived.Lib.Hide
import Derived.Test.YtlhmkfcbldghfaaGreatDoorTrA
import Derived.Deep.MidRow
import Derived.Great.BuildSlice
namespace Go.Proofs.YtlhmkfcbldghfaaGreatDoor
set_option linter.all false
open Go.RowKit
namespace Da
inductive D where
 | int (z:Int)
 | bool (b:Bool)
 | str (l:List UInt8)
 | list (size:Nat) (rows:List (List D))
inductive Is(w:World)(P:Nat→Prop):Value→D→Prop where
 | int (z:Int):Is w P (.int .i64 z) (.int z)
 | bool (b:Bool):Is w P (.bool b) (.bool b)
 | str (l:List UInt8):Is w P (.string ⟨l.toArray⟩) (.str l)
 | nil (p:Option Addr) (c size:Nat) (hm:c≤maxLen):Is w P (.slice p 0 c) (.list size [])
 | list (b off c size:Nat) (rows:List (List D)) (f:Nat→Nat→Value) (hne:rows ≠ []) (hB:P b) (hlt:b<w.heap.size) (hc:rows.length≤c) (hm:c≤maxLen)
   (hrow:∀(k:Nat) (row:List D),rows[k]?=some row→row.length=size)
   (hcell:∀(k:Nat) (row:List D) (j:Nat) (d:D),rows[k]?=some row→row[j]?=some d→w.cell? ⟨b,off+(k * size+j),none⟩=some (f k j))
   (his:∀(k:Nat) (row:List D) (j:Nat) (d:D),rows[k]?=some row→row[j]?=some d→Is w P (f k j) d):Is w P (.slice (some ⟨b,off,none⟩) rows.length c) (.list size rows)
theorem Is.keep{w w':World}{P Q:Nat→Prop}{v:Value}{d:D}(h:Is w P v d)(hs:w.heap.size≤w'.heap.size)(hk:∀ b i,P b→b<w.heap.size→w'.cell? ⟨b,i,none⟩=w.cell? ⟨b,i,none⟩)(hQ:∀ b,P b→b<w.heap.size→Q b):Is w' Q v d:=by
 induction h with
 | int z=>exact .int z
 | bool b=>exact .bool b
 | str l=>exact .str l
 | nil p c size hm=>exact .nil p c size hm
 | list b off c size rows f hne hB hlt hc hm hrow hcell _ ih =>
  exact .list b off c size rows f hne (hQ b hB hlt) (Nat.lt_of_lt_of_le hlt hs) hc hm hrow (fun k row j d h1 h2=>(hk b _ hB hlt).trans (hcell k row j d h1 h2)) ih
theorem Is.later{w w':World}{P:Nat→Prop}{v:Value}{d:D}(h:Is w P v d)(hb:Below w.heap.size w w'):Is w' P v d:=
 h.keep hb.size (fun b i _ hlt=>hb.cell (p:=⟨b,i,none⟩) hlt) (fun _ h _=>h)
theorem Is.mono{w:World}{P Q:Nat→Prop}{v:Value}{d:D}(h:Is w P v d)(hQ:∀ b,P b→Q b):Is w Q v d:=
 h.keep (Nat.le_refl _) (fun _ _ _ _=>rfl) (fun b h _=>hQ b h)
theorem Is.one{w:World}{P:Nat→Prop}{v:Value}{d:D}(h:Is w P v d):v.oneCell'=true:=by cases h <;> rfl
def Av(B:Nat)(vs:List Value)(b:Nat):Prop:=B≤b∧∀ v∈vs,v.ownBlock ≠ some b
theorem av_nil{B b:Nat}{vs:List Value}(h:Av B vs b):Av B [] b:=⟨h.1,fun v hv=>by cases hv⟩
theorem Is.free{w:World}{B:Nat}{vs:List Value}{v:Value}{d:D}(h:Is w (Av B vs) v d):Is w (Av B []) v d:=h.mono fun _=>av_nil
theorem Is.since{w:World}{B B':Nat}{vs:List Value}{v:Value}{d:D}(h:Is w (Av B' []) v d)(hB:B≤B')(hv:∀ u∈vs,∀ b,u.ownBlock=some b→b<B'):Is w (Av B vs) v d:=
 h.mono fun b hb=>⟨Nat.le_trans hB hb.1,fun u hu e=>by have:=hv u hu b e;have:=hb.1;omega⟩
theorem Is.appended{w w':World}{B:Nat}{vs:List Value}{v v' x:Value}{d:D}(h:Is w (Av B (v::vs)) x d)(hg:w.grownBy w' v.ownBlock)(hw:∀ g,v'.ownBlock=some g→v.ownBlock=some g∨w.heap.size≤g):Is w' (Av B (v'::vs)) x d:=by
 refine h.keep hg.size (fun b i hP hlt=>World.cell?_of_block (w:=w) (hg.block b hlt (fun e=>hP.2 v (List.mem_cons_self ..) e.symm))) (fun b hP hlt=>⟨hP.1,fun u hu e=>?_⟩)
 rcases List.mem_cons.1 hu with rfl|hu
 ·rcases hw b e with h|h
  ·exact hP.2 v (List.mem_cons_self ..) h
  ·omega
 ·exact hP.2 u (List.mem_cons_of_mem _ hu) e
def Row(w:World)(P:Nat→Prop)(xs:List Value)(ds:List D):Prop:=xs.length=ds.length∧∀(j:Nat) (d:D),ds[j]?=some d→∃ x,xs[j]?=some x∧Is w P x d
theorem row_nil(w:World)(P:Nat→Prop):Row w P [] []:=⟨rfl,fun j d h=>by simp at h⟩
theorem row_cons{w:World}{P:Nat→Prop}{x:Value}{d:D}{xs:List Value}{ds:List D}(h:Is w P x d)(hr:Row w P xs ds):Row w P (x::xs) (d::ds):=by
 refine⟨by simp [hr.1],fun j e he=>?_⟩
 cases j with
 | zero=>simp at he;subst he;exact⟨x,by simp,h⟩
 | succ j=>simp at he ⊢;exact hr.2 j e he
theorem row_app{w:World}{P:Nat→Prop}{xs ys:List Value}{ds es:List D}(h:Row w P xs ds)(hr:Row w P ys es):Row w P (xs++ys) (ds++es):=by
 refine⟨by simp [h.1,hr.1],fun j e he=>?_⟩
 by_cases hj:j<ds.length
 ·rw [List.getElem?_append_left hj]at he
  rw [List.getElem?_append_left (by rw [h.1];exact hj)]
  exact h.2 j e he
 ·rw [List.getElem?_append_right (by omega)]at he
  rw [List.getElem?_append_right (by rw [h.1];omega),h.1]
  exact hr.2 _ e he
theorem Row.imp{w w':World}{P Q:Nat→Prop}{xs:List Value}{ds:List D}(h:Row w P xs ds)(hI:∀ x d,Is w P x d→Is w' Q x d):Row w' Q xs ds:=
 ⟨h.1,fun j d hd=>let ⟨x,hx,hi⟩:=h.2 j d hd;⟨x,hx,hI x d hi⟩⟩
theorem Row.one{w:World}{P:Nat→Prop}{xs:List Value}{ds:List D}(h:Row w P xs ds):∀ x∈xs,x.oneCell'=true:=fun x hx=>by
 obtain⟨j,hj,rfl⟩:=List.getElem_of_mem hx
 obtain⟨y,hy,hi⟩:=h.2 j (ds[j]'(by rw [← h.1];exact hj)) (List.getElem?_eq_getElem _)
 rw [List.getElem?_eq_getElem hj,Option.some.injEq]at hy
 rw [hy];exact hi.one
structure Own(w:World)(B:Nat)(vs:List Value)(e:TypeId)(size:Nat)(v:Value)(rows:List (List D)):Prop where
 len:∀ row∈rows,row.length=size
 own:∃ xs:List Value,w.ownsRow B e size v rows.length xs∧Row w (Av B (v::vs)) xs rows.flatten
theorem own_nil(w:World)(B:Nat)(vs:List Value)(e:TypeId)(size:Nat):Own w B vs e size (.slice none 0 0) []:=
 ⟨fun r h=>(by cases h),[],World.ownsRow_nil _ _ _ _,row_nil _ _⟩
theorem flat_at{α:Type}(size:Nat):∀(rows:List (List α)) (k:Nat) (row:List α) (j:Nat) (d:α),(∀ r∈rows,r.length=size)→rows[k]?=some row→row[j]?=some d→rows.flatten[k * size+j]?=some d:=by
 intro rows
 induction rows with
 | nil=>intro k row j d _ h;simp at h
 | cons r t ih =>
  intro k row j d hl h hd
  have hr:=hl r (List.mem_cons_self ..)
  cases k with
  | zero =>
   simp at h;subst h
   have hj:j<r.length:=(List.getElem?_eq_some_iff.1 hd).1
   simp only [List.flatten_cons,Nat.zero_mul,Nat.zero_add]
   rw [List.getElem?_append_left hj];exact hd
  | succ k =>
   simp at h
   have:=ih k row j d (fun r h=>hl r (List.mem_cons_of_mem _ h)) h hd
   simp only [List.flatten_cons]
   rw [List.getElem?_append_right (by rw [hr,Nat.succ_mul];omega),hr,show(k+1) * size+j - size=k * size+j by rw [Nat.succ_mul];omega]
   exact this
theorem flat_len{α:Type}(size:Nat):∀(rows:List (List α)),(∀ r∈rows,r.length=size)→rows.flatten.length=rows.length * size:=by
 intro rows
 induction rows with
 | nil=>intro _;simp
 | cons r t ih=>intro hl;rw [List.flatten_cons,List.length_append,ih (fun r h=>hl r (List.mem_cons_of_mem _ h)),hl r (List.mem_cons_self ..),List.length_cons,Nat.succ_mul];omega
theorem is_of_reads{w:World}{P:Nat→Prop}{v:Value}{n size:Nat}{xs:List Value}{rows:List (List D)}(hn:rows.length=n)(hl:∀ row∈rows,row.length=size)(hR:Reads w v n size xs)(hP:∀ b,v.ownBlock=some b→P b)(hb:∀ b off c,v=.slice (some ⟨b,off,none⟩) n c→P b)(hr:Row w P xs rows.flatten):Is w P v (.list size rows):=by
 subst hn
 rcases hR.2 with⟨h0,a,c,rfl,hc⟩|⟨b,off,c,rfl,h1,h2,h3,h4⟩
 ·have:=List.eq_nil_of_length_eq_zero h0
  subst this
  exact .nil a c size hc
 ·by_cases hne:rows=[]
  ·subst hne;exact .nil _ _ _ h2
  ·refine .list b off c size rows (fun k j=>xs[k * size+j]?.getD .nilIface) hne (hb b off c rfl) h3 h1 h2 (fun k row h=>hl row (List.mem_of_getElem? h)) (fun k row j d hk hj=>?_) (fun k row j d hk hj=>?_)
   ·obtain⟨x,hx,_⟩:=hr.2 _ d (flat_at size rows k row j d hl hk hj)
    rw [hx];exact h4 _ x hx
   ·obtain⟨x,hx,hi⟩:=hr.2 _ d (flat_at size rows k row j d hl hk hj)
    rw [hx];exact hi
theorem Own.is{w:World}{B:Nat}{vs:List Value}{e:TypeId}{size:Nat}{v:Value}{rows:List (List D)}(h:Own w B vs e size v rows):Is w (Av B []) v (.list size rows):=by
 obtain⟨hl,xs,ho,hr⟩:=h
 have hlt:=fun b h=>(ho.lt b h).1
 have hr2:Row w (Av B []) xs rows.flatten:=hr.imp fun x d h=>h.free
 refine is_of_reads rfl hl (Reads.of_owns ho) (fun b hb=>⟨hlt b hb,fun v hv=>by cases hv⟩) (fun b off c e=>?_) hr2
 rcases ho.2 with⟨rfl,_⟩|⟨g,cap,cur,rfl,hg,_⟩
 ·cases e
 ·cases e;exact⟨hg,fun v hv=>by cases hv⟩
theorem Is.reads{w:World}{P:Nat→Prop}{v:Value}{size:Nat}{rows:List (List D)}(h:Is w P v (.list size rows)):∃ xs p c,v=.slice p rows.length c∧Reads w v rows.length size xs∧Row w P xs rows.flatten∧∀ row∈rows,row.length=size:=by
 generalize hd:D.list size rows=d at h
 cases h with
 | int z=>cases hd
 | bool b=>cases hd
 | str l=>cases hd
 | nil p c sz hm =>
  cases hd
  exact⟨[],p,c,rfl,⟨by simp,.inl ⟨rfl,p,c,rfl,hm⟩⟩,row_nil _ _,fun r h=>(by cases h)⟩
 | list b off c sz rws f hne hB hlt hc hm hrow hcell his =>
  cases hd
  have hl:∀ row∈rows,row.length=size:=fun row h=>by
   obtain⟨k,hk,rfl⟩:=List.getElem_of_mem h
   exact hrow k _ (List.getElem?_eq_getElem hk)
  have hfl:=flat_len size rows hl
  let xs:List Value:=(List.range (rows.length * size)).map fun i=>f (i / size) (i % size)
  have hxl:xs.length=rows.length * size:=by simp [xs]
  have key:∀ i d,rows.flatten[i]?=some d→∃ k row j,rows[k]?=some row∧row[j]?=some d∧i=k * size+j∧i / size=k∧i % size=j:=by
   intro i d hi
   have hil:i<rows.length * size:=by rw [← hfl];exact(List.getElem?_eq_some_iff.1 hi).1
   have hs:0<size:=by
    rcases Nat.eq_zero_or_pos size with h|h
    ·subst h;simp at hil
    ·exact h
   have hk:i / size<rows.length:=Nat.div_lt_of_lt_mul (by rw [Nat.mul_comm];exact hil)
   have hj:i % size<(rows[i / size]'hk).length:=by rw [hl _ (List.getElem_mem hk)];exact Nat.mod_lt _ hs
   have he:i=i / size * size+i % size:=by rw [Nat.mul_comm];exact(Nat.div_add_mod i size).symm
   refine⟨i / size,rows[i / size]'hk,i % size,List.getElem?_eq_getElem hk,?_,he,rfl,rfl⟩
   have h2:=flat_at size rows (i / size) _ (i % size) _ hl (List.getElem?_eq_getElem hk) (List.getElem?_eq_getElem hj)
   rw [← he,hi,Option.some.injEq]at h2
   rw [List.getElem?_eq_getElem hj,h2]
  have hx:∀ i d,rows.flatten[i]?=some d→xs[i]?=some (f (i / size) (i % size)):=by
   intro i d hi
   have hil:i<rows.length * size:=by rw [← hfl];exact(List.getElem?_eq_some_iff.1 hi).1
   simp [xs,hil]
  refine⟨xs,_,_,rfl,⟨hxl,.inr ⟨b,off,c,rfl,hc,hm,hlt,fun j u hu=>?_⟩⟩,⟨by rw [hxl,hfl],fun j d hd=>?_⟩,hl⟩
  ·have hj:j<rows.flatten.length:=by rw [hfl,← hxl];exact(List.getElem?_eq_some_iff.1 hu).1
   obtain⟨k,row,i,h1,h2,h3,h4,h5⟩:=key j _ (List.getElem?_eq_getElem hj)
   rw [hx j _ (List.getElem?_eq_getElem hj),Option.some.injEq]at hu
   rw [← hu,h4,h5,h3]
   exact hcell k row i _ h1 h2
  ·obtain⟨k,row,i,h1,h2,h3,h4,h5⟩:=key j d hd
   exact⟨_,hx j d hd,by rw [h4,h5];exact his k row i d h1 h2⟩
theorem owns_keep{w w':World}{B:Nat}{e:TypeId}{size:Nat}{v:Value}{n:Nat}{xs:List Value}(h:w.ownsRow B e size v n xs)(hb:Below w.heap.size w w'):w'.ownsRow B e size v n xs:=
 h.kept (row:=none) ⟨hb.os,hb.tape,hb.output,hb.size,fun k hk _=>hb.block k hk⟩ (by cases hv:v.ownBlock <;> simp)
theorem Own.later{w w':World}{B:Nat}{vs:List Value}{e:TypeId}{size:Nat}{v:Value}{rows:List (List D)}(h:Own w B vs e size v rows)(hb:Below w.heap.size w w'):Own w' B vs e size v rows:=
 let ⟨hl,xs,ho,hr⟩:=h;⟨hl,xs,owns_keep ho hb,hr.imp fun _ _ h=>h.later hb⟩
theorem Is.beside{w w':World}{B p:Nat}{vs:List Value}{v:Value}{d:D}(h:Is w (Av B vs) v d)(hp:p<B)(hg:w.grownBy w' (some p)):Is w' (Av B vs) v d:=
 h.keep hg.size (fun b i hP hlt=>World.cell?_of_block (w:=w) (hg.block b hlt (fun e=>by simp at e;have:=hP.1;omega))) (fun _ h _=>h)
theorem Own.beside{w w':World}{B p:Nat}{vs:List Value}{e:TypeId}{size:Nat}{v:Value}{rows:List (List D)}(h:Own w B vs e size v rows)(hp:p<B)(hg:w.grownBy w' (some p)):Own w' B vs e size v rows:=
 let ⟨hl,xs,ho,hr⟩:=h
 ⟨hl,xs,ho.kept hg (by cases hv:v.ownBlock with|none=>exact .inl rfl|some k=>exact .inr (fun e=>by have:=(ho.lt k hv).1;simp at e;omega)),hr.imp fun _ _ h=>h.beside hp hg⟩
theorem Own.other{w w':World}{B:Nat}{u u':Value}{vs:List Value}{e:TypeId}{size:Nat}{v:Value}{rows:List (List D)}(h:Own w B (u::vs) e size v rows)(hne:∀ b,v.ownBlock=some b→u.ownBlock ≠ some b)(hg:w.grownBy w' u.ownBlock)(hw:∀ g,u'.ownBlock=some g→u.ownBlock=some g∨w.heap.size≤g):Own w' B (u'::vs) e size v rows:=by
 obtain⟨hl,xs,ho,hr⟩:=h
 refine⟨hl,xs,ho.kept hg (by cases hv:v.ownBlock with|none=>exact .inl rfl|some k=>exact .inr (fun e=>hne k hv e.symm)),hr.imp fun x d h=>?_⟩
 refine h.keep hg.size (fun b i hP hlt=>World.cell?_of_block (w:=w) (hg.block b hlt (fun e=>hP.2 u (by simp) e.symm))) (fun b hP hlt=>⟨hP.1,fun y hy e=>?_⟩)
 rcases List.mem_cons.1 hy with rfl|hy
 ·exact hP.2 _ (by simp) e
 ·rcases List.mem_cons.1 hy with rfl|hy
  ·rcases hw b e with h|h
   ·exact hP.2 u (by simp) h
   ·omega
  ·exact hP.2 y (by simp [hy]) e
section
variable {P:Program} {w:World}
theorem wpList_append_rows{ops:Array Oper}{rest:List Oper}{o:Oper}{a:Act}{Q:Exit→Act→World→Prop}(hgd:o.guard=none)(s x:Operand)(t:TypeId)
  (ho:o.op=.call { callee:=.builtin .append,args:=#[s,x],argTypes:=#[t,t] })
  (B:Nat) (vs:List Value) (e:TypeId) (i:TypeInfo) (z:Value) (size bytes:Nat) (ht:P.underlying t=some (.slice e)) (hi:P.info? e=some i) (hz:i.zero=some z) (hsize:i.size=size) (hby:i.bytes=bytes) (hzs:z.cells.size=size) (hsz:0<size)
  (v:Value) (rows:List (List D)) (hs:a.eval s=v) (hown:Own w B vs e size v rows) (p m c:Nat) (ys:List Value) (rows2:List (List D)) (hx:a.eval x=.slice (some ⟨p,0,none⟩) m c) (hR:Reads w (.slice (some ⟨p,0,none⟩) m c) m size ys)
  (hm:rows2.length=m) (hl2:∀ row∈rows2,row.length=size) (hr2:Row w (Av B (v::vs)) ys rows2.flatten)
  (hm0:0<m) (h63:rows.length+m≤maxLen) (hbytes:(rows.length+m) * bytes≤140737488355328) (hbase:B≤w.heap.size)
  (h:∀ v' w',Own w' B vs e size v' (rows++rows2)→w.grownBy w' v.ownBlock→(∀ g,v'.ownBlock=some g→v.ownBlock=some g∨w.heap.size≤g)→wpList P ops Q rest (a.put o.dst v') w'):wpList P ops Q (o::rest) a w:=by
 obtain⟨hl,xs,hown,hr⟩:=hown
 refine wpList_append_where hgd s x t ho B e i z size bytes ht hi hz hsize hby hzs hsz v rows.length xs hs hown p m c ys hx hR hr2.one hm0 h63 hbytes hbase fun v' w' h1 h2 h3=>h v' w' ?_ h2 h3
 refine⟨fun row hrow=>?_,xs++ys,by rw [List.length_append,hm];exact h1,?_⟩
 ·rcases List.mem_append.1 hrow with h|h
  ·exact hl row h
  ·exact hl2 row h
 ·rw [List.flatten_append]
  exact row_app (hr.imp fun x d h=>h.appended h2 h3) (hr2.imp fun x d h=>h.appended h2 h3)
end
end Da
namespace Tr
open Da
mutual
def exD:Ex→List D
 | .mk k n t o xs p=>[.int k,.int n,.str t,.str o,.list 6 (exDs xs),.int p]
def exDs:List Ex→List (List D)
 | []=>[]
 | e::es=>exD e::exDs es
end
theorem exDs_map(l:List Ex):exDs l=l.map exD:=by
 induction l with
 | nil=>simp [exDs]
 | cons e es ih=>simp [exDs,ih]
theorem exD_len(e:Ex):(exD e).length=6:=by cases e;simp [exD]
mutual
def tyD:Ty→List D
 | .mk k m n ls el ba fs ps rs p=>[.int k,.str m,.str n,.list 6 (exDs ls),.list 10 (tyDs el),.list 10 (tyDs ba),.list 13 (fdDs fs),.list 13 (fdDs ps),.list 10 (tyDs rs),.int p]
def tyDs:List Ty→List (List D)
 | []=>[]
 | e::es=>tyD e::tyDs es
def fdDs:List (List UInt8 × Bool × Ty × Int)→List (List D)
 | []=>[]
 | (n,b,t,p)::fs=>(.str n::.bool b::(tyD t++[.int p]))::fdDs fs
end
theorem tyDs_map(l:List Ty):tyDs l=l.map tyD:=by
 induction l with
 | nil=>simp [tyDs]
 | cons e es ih=>simp [tyDs,ih]
theorem tyD_len(e:Ty):(tyD e).length=10:=by cases e;simp [tyD]
def fdD(x:List UInt8 × Bool × Ty × Int):List D:=.str x.1::.bool x.2.1::(tyD x.2.2.1++[.int x.2.2.2])
theorem fdDs_map(l:List (List UInt8 × Bool × Ty × Int)):fdDs l=l.map fdD:=by
 induction l with
 | nil=>simp [fdDs]
 | cons e es ih=>obtain⟨n,b,t,p⟩:=e;simp [fdDs,fdD,ih]
theorem fdD_len(x:List UInt8 × Bool × Ty × Int):(fdD x).length=13:=by simp [fdD,tyD_len]
mutual
def stD:St→List D
 | .mk k n es ls bs p=>[.int k,.str n,.list 6 (exDs es),.list 1 (ls.map fun l=>[.list 6 (exDs l)]),.list 1 (blDs bs),.int p]
def stDs:List St→List (List D)
 | []=>[]
 | e::es=>stD e::stDs es
def blDs:List (List St)→List (List D)
 | []=>[]
 | b::bs=>[.list 6 (stDs b)]::blDs bs
end
theorem stDs_map(l:List St):stDs l=l.map stD:=by
 induction l with
 | nil=>simp [stDs]
 | cons e es ih=>simp [stDs,ih]
theorem blDs_map(l:List (List St)):blDs l=l.map fun b=>[D.list 6 (stDs b)]:=by
 induction l with
 | nil=>simp [blDs]
 | cons e es ih=>simp [blDs,ih]
theorem stD_len(e:St):(stD e).length=6:=by cases e;simp [stD]
def cnD(x:List UInt8 × Bool × Ex × Int):List D:=.str x.1::.bool x.2.1::(exD x.2.2.1++[.int x.2.2.2])
theorem cnD_len(x:List UInt8 × Bool × Ex × Int):(cnD x).length=9:=by simp [cnD,exD_len]
def imD(x:List UInt8 × List UInt8 × Int):List D:=[.str x.1,.str x.2.1,.int x.2.2]
def prD(p:Pr):List D:=[.str p.name,.bool p.out,.list 13 (fdDs p.params),.list 10 (tyDs p.result),.list 9 (p.de.consts.map cnD),.list 13 (fdDs p.de.types),.list 13 (fdDs p.de.vars),.list 6 (stDs p.body),.list 6 (exDs p.ret),.int p.pos]
def moD(m:Mo):List D:=[.str m.name,.list 3 (m.imports.map imD),.list 9 (m.de.consts.map cnD),.list 13 (fdDs m.de.types),.list 13 (fdDs m.de.vars),.list 10 (m.procs.map prD),.list 6 (stDs m.body),.int m.pos]
def tkCell(t:Tok):List Value:=[.int .i64 t.1,.string ⟨t.2.1.toArray⟩,.int .i64 t.2.2.1,.int .i64 t.2.2.2]
def tkCells(ts:List Tok):List Value:=ts.flatMap tkCell
theorem tkCells_at(ts:List Tok)(k:Nat)(t:Tok)(j:Nat)(v:Value)(h:ts[k]?=some t)(hv:(tkCell t)[j]?=some v):(tkCells ts)[k * 4+j]?=some v:=by
 induction ts generalizing k with
 | nil=>simp at h
 | cons x xs ih =>
  have h4:(tkCell x).length=4:=rfl
  have e:tkCells (x::xs)=tkCell x++tkCells xs:=rfl
  rw [e]
  cases k with
  | zero =>
   simp at h;subst h
   have hj:j<4:=by have:=(List.getElem?_eq_some_iff.1 hv).1;rw [h4]at this;exact this
   rw [List.getElem?_append_left (by rw [h4];omega),show 0 * 4+j=j by omega];exact hv
  | succ k =>
   simp at h
   rw [List.getElem?_append_right (by rw [h4];omega),h4,show(k+1) * 4+j - 4=k * 4+j by omega]
   exact ih k h
def sk(kd:Int)(w:List UInt8):Value:=.agg #[.int .i64 kd,.string ⟨w.toArray⟩]
def begV(kd:Int)(w:List UInt8):Int:=
 if kd=1∧w=[]then 1 else if (kd=3∨kd=4∨kd=5)∧w=[]then 2 else if kd=2∧(w=kNIL∨w=kTRUE∨w=kFALSE)then 2 else if kd=6∧(w=[123]∨w=[40]∨w=[126])then 2 else if kd=6∧(w=[43]∨w=[45])then 3 else 0
def begKeys:List (Int × List UInt8):=[(1,[]),(3,[]),(4,[]),(5,[]),(2,kNIL),(2,kTRUE),(2,kFALSE),(6,[123]),(6,[40]),(6,[126]),(6,[43]),(6,[45])]
def BegOk(es:Array MapEntry):Prop:=(∀ e∈es.toList,∃ kd w,0≤kd∧kd≤6∧w.length≤100000∧e.key=sk kd w∧e.val=.int .i64 (begV kd w))∧(∀ p∈begKeys,∃ e∈es.toList,e.key=sk p.1 p.2)
def Blk(w:World)(b:Nat)(cs:Array Value):Prop:=∃ t,w.heap[b]?=some (.cells cs t (0,0))
theorem Blk.cell{w:World}{b:Nat}{cs:Array Value}(h:Blk w b cs)(i:Nat):w.cell? ⟨b,i,none⟩=cs[i]?:=by
 obtain⟨t,h⟩:=h;simp [World.cell?,h]
theorem Blk.free{w:World}{b:Nat}{cs:Array Value}(h:Blk w b cs)(i:Nat):w.frozen? ⟨b,i,none⟩=false:=by
 obtain⟨t,h⟩:=h;simp [World.frozen?,h]
theorem Blk.lt{w:World}{b:Nat}{cs:Array Value}(h:Blk w b cs):b<w.heap.size:=by
 obtain⟨t,h⟩:=h;exact(Array.getElem?_eq_some_iff.1 h).1
theorem Blk.set{w:World}{b:Nat}{cs:Array Value}(h:Blk w b cs)(i:Nat)(v:Value):Blk (w.setCell ⟨b,i,none⟩ v) b (cs.setIfInBounds i v):=by
 obtain⟨t,h⟩:=h
 exact⟨t,by simp [World.setCell,Array.getElem?_modify,h]⟩
theorem Blk.other{w:World}{b g:Nat}{cs:Array Value}(h:Blk w b cs)(hne:g ≠ b)(i:Nat)(v:Value):Blk (w.setCell ⟨g,i,none⟩ v) b cs:=by
 obtain⟨t,h⟩:=h
 exact⟨t,by simp [World.setCell,Array.getElem?_modify,hne,h]⟩
theorem Blk.grown{w w':World}{b:Nat}{row:Option Nat}{cs:Array Value}(h:Blk w b cs)(hg:w.grownBy w' row)(hne:row ≠ some b):Blk w' b cs:=by
 have hl:=h.lt
 obtain⟨t,h⟩:=h
 exact⟨t,by rw [hg.block b hl (fun e=>hne e.symm)];exact h⟩
theorem Blk.below{w w':World}{b:Nat}{cs:Array Value}(h:Blk w b cs)(hb:Below w.heap.size w w'):Blk w' b cs:=by
 have hl:=h.lt
 obtain⟨t,h⟩:=h
 exact⟨t,by rw [hb.block b hl];exact h⟩
theorem blk_new(w:World)(cs:Array Value)(t:TypeId):Blk (w.alloc (.cells cs t)) w.heap.size cs:=⟨t,by simp only [World.alloc];exact Array.getElem?_push_size⟩
theorem Blk.alloc{w:World}{b:Nat}{cs:Array Value}(h:Blk w b cs)(o:Obj):Blk (w.alloc o) b cs:=h.below ((Below.refl _ _).alloc (Nat.le_refl _) o)
theorem Blk.more{w:World}{b:Nat}{cs:Array Value}(h:Blk w b cs)(g:Came):Blk (Go.Proofs.YtlhmkfcbldghfaaGreatDoor.more w g) b cs:=h.below (below_more (Below.refl _ _) (Nat.le_refl _) g)
theorem Blk.drew{w:World}{b:Nat}{cs:Array Value}(h:Blk w b cs):Blk w.drew b cs:=h.below (Below.refl _ _).drew
theorem Blk.drewN{w:World}{b:Nat}{cs:Array Value}(h:Blk w b cs)(n:Nat):Blk (w.drewN n) b cs:=h.below (below_drewN (Below.refl _ _) n)
theorem blk_at{w:World}{b:Nat}(hb:b=w.heap.size)(cs:Array Value)(t:TypeId):Blk (w.alloc (.cells cs t)) b cs:=hb ▸ blk_new w cs t
def Rd(w:World)(bp:Nat)(w':World):Prop:=w.grownBy w' (some bp)
theorem rd_refl(w:World)(bp:Nat):Rd w bp w:=⟨rfl,rfl,rfl,Nat.le_refl _,fun _ _ _=>rfl⟩
theorem rd_below{w w1 w2:World}{bp:Nat}(h:Rd w bp w1)(hb:Below w1.heap.size w1 w2):Rd w bp w2:=
 ⟨hb.os.trans h.os,hb.tape.trans h.tape,hb.output.trans h.output,Nat.le_trans h.size hb.size,fun k hk hn=>(hb.block k (Nat.lt_of_lt_of_le hk h.size)).trans (h.block k hk hn)⟩
theorem rd_trans{w w1 w2:World}{bp:Nat}(h:Rd w bp w1)(h2:Rd w1 bp w2):Rd w bp w2:=
 ⟨h2.os.trans h.os,h2.tape.trans h.tape,h2.output.trans h.output,Nat.le_trans h.size h2.size,fun k hk hn=>(h2.block k (Nat.lt_of_lt_of_le hk h.size) hn).trans (h.block k hk hn)⟩
theorem rd_alloc{w w1:World}{bp:Nat}(h:Rd w bp w1)(o:Obj):Rd w bp (w1.alloc o):=rd_below h ((Below.refl _ _).alloc (Nat.le_refl _) o)
theorem rd_drew{w w1:World}{bp:Nat}(h:Rd w bp w1):Rd w bp w1.drew:=rd_below h (Below.refl _ _).drew
theorem rd_drewN{w w1:World}{bp:Nat}(h:Rd w bp w1)(n:Nat):Rd w bp (w1.drewN n):=rd_below h (below_drewN (Below.refl _ _) n)
theorem rd_more{w w1:World}{bp:Nat}(h:Rd w bp w1)(g:Came):Rd w bp (more w1 g):=rd_below h (below_more (Below.refl _ _) (Nat.le_refl _) g)
theorem rd_set{w w1:World}{bp b:Nat}(h:Rd w bp w1)(hb:b=bp∨w.heap.size≤b)(i:Nat)(v:Value):Rd w bp (w1.setCell ⟨b,i,none⟩ v):=by
 refine⟨h.os,h.tape,h.output,by rw [World.size_setCell];exact h.size,fun k hk hn=>?_⟩
 have hkb:b ≠ k:=by
  rcases hb with rfl|hb
  ·exact(fun e=>hn (by rw [e]))
  ·omega
 rw [← h.block k hk hn]
 simp [World.setCell,Array.getElem?_modify,hkb]
theorem rd_grown{w w1 w2:World}{bp:Nat}{row:Option Nat}(h:Rd w bp w1)(hg:w1.grownBy w2 row)(hr:∀ k,row=some k→w.heap.size≤k):Rd w bp w2:=
 ⟨hg.os.trans h.os,hg.tape.trans h.tape,hg.output.trans h.output,Nat.le_trans h.size hg.size,fun k hk hn=>(hg.block k (Nat.lt_of_lt_of_le hk h.size) (fun e=>by have:=hr k e.symm;omega)).trans (h.block k hk hn)⟩
structure PK(w:World)(B bp:Nat)(en:Int)(tv:Value)(ts:List Tok)(bm k:Nat):Prop where
 pb:Blk w bp #[tv,.int .i64 k,.int .i64 en,.map (some bm)]
 rd:Reads w tv ts.length 4 (tkCells ts)
 tb:∀ b o n c,tv=.slice (some ⟨b,o,none⟩) n c→0<n→b<B∧b ≠ bp
 mp:∃ es,w.heap[bm]?=some (.map es 12)∧BegOk es
 hm:bm<B∧bm ≠ bp
 hb:bp<B
 hB:B≤w.heap.size
 hk:k≤ts.length
 hl:ts.length≤6000
 gt:∀ t∈ts,0≤t.1∧t.1≤6∧t.2.1.length≤100000
def PS(w:World)(B bp:Nat)(en:Int)(l:List Tok):Prop:=∃ tv ts bm k,PK w B bp en tv ts bm k∧l=ts.drop k
theorem PK.keep{w w':World}{B bp:Nat}{en:Int}{tv:Value}{ts:List Tok}{bm k:Nat}(h:PK w B bp en tv ts bm k)(hs:w.heap.size≤w'.heap.size)(hw:∀ b,b<B→w'.heap[b]?=w.heap[b]?):PK w' B bp en tv ts bm k:=by
 obtain⟨pb,rd,tb,mp,hm,hb,hB,hk,hl,gt⟩:=h
 refine⟨?_,?_,tb,by rw [hw _ hm.1];exact mp,hm,hb,Nat.le_trans hB hs,hk,hl,gt⟩
 ·obtain⟨t,h⟩:=pb;exact⟨t,by rw [hw _ hb];exact h⟩
 ·refine⟨rd.1,?_⟩
  rcases rd.2 with h|⟨b,off,cap,h1,h2,h3,h4,h5⟩
  ·exact .inl h
  ·by_cases h0:0<ts.length
   ·exact .inr ⟨b,off,cap,h1,h2,h3,Nat.lt_of_lt_of_le h4 hs,fun j u hu=>by rw [World.cell?_of_block (w:=w) (hw b (tb _ _ _ _ h1 h0).1)];exact h5 j u hu⟩
   ·have e:ts.length=0:=by omega
    exact .inl ⟨e,some ⟨b,off,none⟩,cap,by rw [h1,e],h3⟩
theorem PK.move{w:World}{B bp:Nat}{en:Int}{tv:Value}{ts:List Tok}{bm k:Nat}(h:PK w B bp en tv ts bm k)(k':Nat)(hk':k'≤ts.length):PK (w.setCell ⟨bp,1,none⟩ (.int .i64 k')) B bp en tv ts bm k':=by
 obtain⟨pb,rd,tb,mp,hm,hb,hB,hk,hl,gt⟩:=h
 refine⟨pb.set 1 _,?_,tb,(by obtain⟨es,h1,h2⟩:=mp;exact⟨es,by simp [World.setCell,Array.getElem?_modify,Ne.symm hm.2,h1],h2⟩),hm,hb,by rw [World.size_setCell];exact hB,hk',hl,gt⟩
 refine⟨rd.1,?_⟩
 rcases rd.2 with h|⟨b,off,cap,h1,h2,h3,h4,h5⟩
 ·exact .inl h
 ·by_cases h0:0<ts.length
  ·exact .inr ⟨b,off,cap,h1,h2,h3,by rw [World.size_setCell];exact h4,fun j u hu=>by
    have hne:bp ≠ b:=Ne.symm (tb _ _ _ _ h1 h0).2
    rw [World.cell?_of_block (w:=w) (by simp [World.setCell,Array.getElem?_modify,hne])];exact h5 j u hu⟩
  ·have e:ts.length=0:=by omega
   exact .inl ⟨e,some ⟨b,off,none⟩,cap,by rw [h1,e],h3⟩
theorem PS.keep{w w':World}{B bp:Nat}{en:Int}{l:List Tok}(h:PS w B bp en l)(hs:w.heap.size≤w'.heap.size)(hw:∀ b,b<B→w'.heap[b]?=w.heap[b]?):PS w' B bp en l:=
 let ⟨tv,ts,bm,k,h,e⟩:=h;⟨tv,ts,bm,k,h.keep hs hw,e⟩
theorem PS.size{w:World}{B bp:Nat}{en:Int}{l:List Tok}(h:PS w B bp en l):B≤w.heap.size:=let ⟨_,_,_,_,h,_⟩:=h;h.hB
theorem PS.ptr{w:World}{B bp:Nat}{en:Int}{l:List Tok}(h:PS w B bp en l):bp<B:=let ⟨_,_,_,_,h,_⟩:=h;h.hb
theorem PS.good{w:World}{B bp:Nat}{en:Int}{l:List Tok}(h:PS w B bp en l):∀ t∈l,0≤t.1∧t.1≤6∧t.2.1.length≤100000:=by
 obtain⟨_,ts,_,k,h,rfl⟩:=h
 exact fun t ht=>h.gt t (List.mem_of_mem_drop ht)
theorem PS.map{w:World}{B bp:Nat}{en:Int}{l:List Tok}(h:PS w B bp en l):∃ bm es,w.cell? ⟨bp,3,none⟩=some (.map (some bm))∧bp<w.heap.size∧w.heap[bm]?=some (.map es 12)∧bm<w.heap.size∧BegOk es:=by
 obtain⟨_,ts,bm,k,h,rfl⟩:=h
 have c:=h.pb.cell 3
 simp at c
 obtain⟨es,h1,h2⟩:=h.mp
 exact⟨bm,es,c,h.pb.lt,h1,Nat.lt_of_lt_of_le h.hm.1 h.hB,h2⟩
theorem PS.len{w:World}{B bp:Nat}{en:Int}{l:List Tok}(h:PS w B bp en l):l.length≤6000:=by
 obtain⟨_,ts,_,k,h,rfl⟩:=h
 have:=h.hl
 simp;omega
theorem PS.below{w w':World}{B bp:Nat}{en:Int}{l:List Tok}(h:PS w B bp en l)(hb:Below w.heap.size w w'):PS w' B bp en l:=
 h.keep hb.size fun b hlt=>hb.block b (Nat.lt_of_lt_of_le hlt h.size)
theorem PS.grown{w w':World}{B bp:Nat}{en:Int}{l:List Tok}{row:Option Nat}(h:PS w B bp en l)(hg:w.grownBy w' row)(hr:∀ k,row=some k→B≤k):PS w' B bp en l:=
 h.keep hg.size fun b hlt=>hg.block b (Nat.lt_of_lt_of_le hlt h.size) (fun e=>by have:=hr b e.symm;omega)
theorem PS.alloc{w:World}{B bp:Nat}{en:Int}{l:List Tok}(h:PS w B bp en l)(o:Obj):PS (w.alloc o) B bp en l:=h.below ((Below.refl _ _).alloc (Nat.le_refl _) o)
theorem PS.more{w:World}{B bp:Nat}{en:Int}{l:List Tok}(h:PS w B bp en l)(g:Came):PS (Go.Proofs.YtlhmkfcbldghfaaGreatDoor.more w g) B bp en l:=h.below (below_more (Below.refl _ _) (Nat.le_refl _) g)
theorem PS.drew{w:World}{B bp:Nat}{en:Int}{l:List Tok}(h:PS w B bp en l):PS w.drew B bp en l:=h.below (Below.refl _ _).drew
theorem PS.drewN{w:World}{B bp:Nat}{en:Int}{l:List Tok}(h:PS w B bp en l)(n:Nat):PS (w.drewN n) B bp en l:=h.below (below_drewN (Below.refl _ _) n)
theorem PS.set{w:World}{B bp b:Nat}{en:Int}{l:List Tok}(h:PS w B bp en l)(hb:B≤b)(i:Nat)(v:Value):PS (w.setCell ⟨b,i,none⟩ v) B bp en l:=
 h.keep (by rw [World.size_setCell];exact Nat.le_refl _) fun k hk=>by
  have:b ≠ k:=by omega
  simp [World.setCell,Array.getElem?_modify,this]
end Tr
namespace Fr
open Da Tr
inductive RI where
 | blk (b:Nat) (cs:List Value)
 | row (v:Value) (e:TypeId) (size:Nat) (rows:List (List D))
abbrev nilR(e:TypeId)(size:Nat):RI:=.row (.slice none 0 0) e size []
abbrev dead:RI:=nilR 0 0
def RI.fp:RI→Option Nat
 | .blk b _=>some b
 | .row v _ _ _=>v.ownBlock
def Off(lo:Nat)(R:List RI)(b:Nat):Prop:=lo≤b∧∀(i:Nat) (r:RI),R[i]?=some r→r.fp ≠ some b
def RI.ok(W:World)(lo:Nat)(R:List RI):RI→Prop
 | .blk b cs=>lo≤b∧Blk W b cs.toArray
 | .row v e size rows=>(∀ row∈rows,row.length=size)∧∃ xs,W.ownsRow lo e size v rows.length xs∧Row W (Off lo R) xs rows.flatten
theorem RI.ok.lt{W:World}{lo:Nat}{R:List RI}{r:RI}(h:r.ok W lo R):∀ b,r.fp=some b→lo≤b∧b<W.heap.size:=by
 intro b hb
 cases r with
 | blk b' cs=>simp [RI.fp]at hb;subst hb;exact⟨h.1,h.2.lt⟩
 | row v e size rows=>obtain⟨_,xs,ho,_⟩:=h;exact ho.lt b hb
theorem is_turn{W W':World}{P Q:Nat→Prop}{v:Value}{d:D}(h:Is W P v d)(hs:W.heap.size≤W'.heap.size)(hb:∀ b,P b→b<W.heap.size→W'.heap[b]?=W.heap[b]?)(hQ:∀ b,P b→b<W.heap.size→Q b):Is W' Q v d:=
 h.keep hs (fun b i hP hlt=>World.cell?_of_block (w:=W) (hb b hP hlt)) hQ
theorem RI.ok.turn{W W':World}{lo:Nat}{R R':List RI}{r:RI}(h:r.ok W lo R)(hs:W.heap.size≤W'.heap.size)(hb:∀ b,b<W.heap.size→(Off lo R b∨r.fp=some b)→W'.heap[b]?=W.heap[b]?)(hQ:∀ b,Off lo R b→b<W.heap.size→Off lo R' b):r.ok W' lo R':=by
 cases r with
 | blk b cs =>
  have hlt:=h.2.lt
  obtain⟨h1,t,h2⟩:=h
  exact⟨h1,t,by rw [hb b hlt (.inr rfl)];exact h2⟩
 | row v e size rows =>
  obtain⟨h1,xs,ho,hr⟩:=h
  refine⟨h1,xs,⟨ho.1,?_⟩,hr.imp fun x d hx=>is_turn hx hs (fun b hP hlt=>hb b hlt (.inl hP)) hQ⟩
  rcases ho.2 with hn|⟨g,cap,cur,rfl,hg,hh,rest⟩
  ·exact .inl hn
  ·exact .inr ⟨g,cap,cur,rfl,hg,by rw [hb g (Array.getElem?_eq_some_iff.1 hh).1 (.inr rfl)];exact hh,rest⟩
structure Fm(w:World)(g:Option Nat)(Kp:World→Prop)(W:World)(R:List RI)(Ds:List (Value × D)):Prop where
 gr:w.grownBy W g
 hg:∀ k,g=some k→k<w.heap.size
 st:∀ X Y:World,X.heap.size≤Y.heap.size→(∀ b,b<w.heap.size→Y.heap[b]?=X.heap[b]?)→Kp X→Kp Y
 kp:Kp W
 ap:∀(i j:Nat) (r s:RI) (b:Nat),i ≠ j→R[i]?=some r→R[j]?=some s→r.fp=some b→s.fp ≠ some b
 ri:∀(i:Nat) (r:RI),R[i]?=some r→r.ok W w.heap.size R
 da:∀(i:Nat) (v:Value) (d:D),Ds[i]?=some (v,d)→Is W (Off w.heap.size R) v d
theorem grown_trans{a b c:World}{g:Option Nat}(h:a.grownBy b g)(h2:b.grownBy c g):a.grownBy c g:=
 ⟨h2.os.trans h.os,h2.tape.trans h.tape,h2.output.trans h.output,Nat.le_trans h.size h2.size,fun k hk hn=>(h2.block k (Nat.lt_of_lt_of_le hk h.size) hn).trans (h.block k hk hn)⟩
theorem fm_start(w:World)(g:Option Nat)(Kp:World→Prop)(hg:∀ k,g=some k→k<w.heap.size)(st:∀ X Y:World,X.heap.size≤Y.heap.size→(∀ b,b<w.heap.size→Y.heap[b]?=X.heap[b]?)→Kp X→Kp Y)(kp:Kp w):Fm w g Kp w [] []:=
 ⟨⟨rfl,rfl,rfl,Nat.le_refl _,fun _ _ _=>rfl⟩,hg,st,kp,fun i j r s b _ h=>by simp at h,fun i r h=>by simp at h,fun i v d h=>by simp at h⟩
section
variable {w W W':World} {g:Option Nat} {Kp Kp':World→Prop} {R:List RI} {Ds:List (Value × D)}
theorem Fm.fpl(h:Fm w g Kp W R Ds){i:Nat}{r:RI}{b:Nat}(hi:R[i]?=some r)(hb:r.fp=some b):w.heap.size≤b∧b<W.heap.size:=(h.ri i r hi).lt b hb
theorem Fm.size(h:Fm w g Kp W R Ds):w.heap.size≤W.heap.size:=h.gr.size
theorem Fm.call(h:Fm w g Kp W R Ds)(hr:W.grownBy W' g)(st:∀ X Y:World,X.heap.size≤Y.heap.size→(∀ b,b<w.heap.size→Y.heap[b]?=X.heap[b]?)→Kp' X→Kp' Y)(kp:Kp' W'):Fm w g Kp' W' R Ds:=by
 have hb:∀ b,w.heap.size≤b→b<W.heap.size→W'.heap[b]?=W.heap[b]?:=fun b h1 h2=>hr.block b h2 (fun e=>by have:=h.hg b e.symm;omega)
 refine⟨grown_trans h.gr hr,h.hg,st,kp,h.ap,fun i r hi=>?_,fun i v d hi=>is_turn (h.da i v d hi) hr.size (fun b hP hlt=>hb b hP.1 hlt) (fun b hP _=>hP)⟩
 refine(h.ri i r hi).turn hr.size (fun b hlt hP=>hb b ?_ hlt) (fun b hP _=>hP)
 rcases hP with hP|hP
 ·exact hP.1
 ·exact(h.fpl hi hP).1
theorem Fm.data{v:Value}{d:D}{m:Nat}(h:Fm w g Kp W R Ds)(hd:Is W (fun b=>m≤b) v d)(hm:w.heap.size≤m)(hR:∀(i:Nat) (r:RI) (b:Nat),R[i]?=some r→r.fp=some b→b<m):Fm w g Kp W R ((v,d)::Ds):=by
 refine⟨h.gr,h.hg,h.st,h.kp,h.ap,h.ri,fun i v' d' hi=>?_⟩
 cases i with
 | zero =>
  simp at hi;obtain⟨rfl,rfl⟩:=hi
  exact hd.mono fun b hb=>⟨Nat.le_trans hm hb,fun i r hr e=>by have:=hR i r b hr e;have:m≤b:=hb;omega⟩
 | succ i=>simp at hi;exact h.da i v' d' hi
theorem Fm.since{X:World}{Kp0:World→Prop}{Ds0:List (Value × D)}{v:Value}{d:D}(h0:Fm w g Kp0 X R Ds0)(h:Fm w g Kp W R Ds)(hd:Is W (fun b=>X.heap.size≤b) v d):Fm w g Kp W R ((v,d)::Ds):=
 h.data hd h0.size fun _ _ _ hi hb=>(h0.fpl hi hb).2
theorem Fm.keepK(h:Fm w g Kp W R Ds)(hs:W.heap.size≤W'.heap.size)(hb:∀ b,b<w.heap.size→W'.heap[b]?=W.heap[b]?):Kp W':=h.st W W' hs hb h.kp
theorem Fm.drew(h:Fm w g Kp W R Ds):Fm w g Kp W.drew R Ds:=h.call ⟨rfl,rfl,rfl,Nat.le_refl _,fun _ _ _=>rfl⟩ h.st (h.keepK (Nat.le_refl _) fun _ _=>rfl)
theorem Fm.below(h:Fm w g Kp W R Ds)(hb:Below W.heap.size W W'):Fm w g Kp W' R Ds:=
 h.call ⟨hb.os,hb.tape,hb.output,hb.size,fun k hk _=>hb.block k hk⟩ h.st (h.keepK hb.size fun b hlt=>hb.block b (Nat.lt_of_lt_of_le hlt h.size))
theorem Fm.alloc(h:Fm w g Kp W R Ds)(cs:List Value)(T:TypeId):Fm w g Kp (W.alloc (.cells cs.toArray T)) (.blk W.heap.size cs::R) Ds:=by
 have hB:Below W.heap.size W (W.alloc (.cells cs.toArray T)):=(Below.refl _ _).alloc (Nat.le_refl _) _
 have hoff:∀ b,Off w.heap.size R b→b<W.heap.size→Off w.heap.size (.blk W.heap.size cs::R) b:=fun b hb hlt=>⟨hb.1,fun i r hi=>by
  cases i with
  | zero=>simp at hi;subst hi;intro e;simp [RI.fp]at e;omega
  | succ i=>simp at hi;exact hb.2 i r hi⟩
 have h':=h.below hB
 refine⟨h'.gr,h.hg,h.st,h'.kp,fun i j r s b hij hi hj hb=>?_,fun i r hi=>?_,fun i v d hi=>is_turn (h.da i v d hi) hB.size (fun b hP hlt=>hB.block b hlt) hoff⟩
 ·cases i with
  | zero =>
   cases j with
   | zero=>exact absurd rfl hij
   | succ j =>
    simp at hi hj;subst hi;simp [RI.fp]at hb;subst hb
    intro e;have:=(h.fpl hj e).2;omega
  | succ i =>
   cases j with
   | zero=>simp at hi hj;subst hj;intro e;simp [RI.fp]at e;have:=(h.fpl hi hb).2;omega
   | succ j=>simp at hi hj;exact h.ap i j r s b (by omega) hi hj hb
 ·cases i with
  | zero=>simp at hi;subst hi;exact⟨h.size,blk_new _ _ _⟩
  | succ i=>simp at hi;exact(h.ri i r hi).turn hB.size (fun b hlt _=>hB.block b hlt) hoff
theorem Fm.turn{k:Nat}{r r':RI}(h:Fm w g Kp W R Ds)(hk:R[k]?=some r)(hgr:W.grownBy W' r.fp)(hfp:∀ b,r'.fp=some b→r.fp=some b∨W.heap.size≤b)(hok:(∀ b,Off w.heap.size R b→b<W.heap.size→Off w.heap.size (R.set k r') b)→r'.ok W' w.heap.size (R.set k r')):Fm w g Kp W' (R.set k r') Ds:=by
 have hkl:k<R.length:=(List.getElem?_eq_some_iff.1 hk).1
 have hne:∀ b,Off w.heap.size R b→some b ≠ r.fp:=fun b hb e=>hb.2 k r hk e.symm
 have hoff:∀ b,Off w.heap.size R b→b<W.heap.size→Off w.heap.size (R.set k r') b:=fun b hb hlt=>⟨hb.1,fun i s hi=>by
  by_cases hik:i=k
  ·subst hik
   rw [List.getElem?_set_self hkl]at hi
   simp only [Option.some.injEq]at hi;subst hi
   intro e
   rcases hfp b e with h1|h1
   ·exact hne b hb h1.symm
   ·omega
  ·rw [List.getElem?_set_ne (Ne.symm hik)]at hi;exact hb.2 i s hi⟩
 have hlow:∀ b,b<w.heap.size→W'.heap[b]?=W.heap[b]?:=fun b hlt=>hgr.block b (Nat.lt_of_lt_of_le hlt h.size) (fun e=>by have:=(h.fpl hk e.symm).1;omega)
 refine⟨⟨hgr.os.trans h.gr.os,hgr.tape.trans h.gr.tape,hgr.output.trans h.gr.output,Nat.le_trans h.gr.size hgr.size,fun b hb hn=>(hlow b hb).trans (h.gr.block b hb hn)⟩,h.hg,h.st,h.keepK hgr.size hlow,fun i j r1 s1 b hij hi hj hb=>?_,fun i s hi=>?_,fun i v d hi=>is_turn (h.da i v d hi) hgr.size (fun b hP hlt=>hgr.block b hlt (hne b hP)) hoff⟩
 ·by_cases hik:i=k
  ·subst hik
   rw [List.getElem?_set_self hkl]at hi
   simp only [Option.some.injEq]at hi;subst hi
   rw [List.getElem?_set_ne hij]at hj
   rcases hfp b hb with h1|h1
   ·exact h.ap i j r s1 b hij hk hj h1
   ·intro e;have:=(h.fpl hj e).2;omega
  ·rw [List.getElem?_set_ne (Ne.symm hik)]at hi
   by_cases hjk:j=k
   ·subst hjk
    rw [List.getElem?_set_self hkl]at hj
    simp only [Option.some.injEq]at hj;subst hj
    intro e
    rcases hfp b e with h1|h1
    ·exact h.ap i j r1 r b hij hi hk hb h1
    ·have:=(h.fpl hi hb).2;omega
   ·rw [List.getElem?_set_ne (Ne.symm hjk)]at hj
    exact h.ap i j r1 s1 b hij hi hj hb
 ·by_cases hik:i=k
  ·subst hik
   rw [List.getElem?_set_self hkl]at hi
   simp only [Option.some.injEq]at hi;subst hi
   exact hok hoff
  ·rw [List.getElem?_set_ne (Ne.symm hik)]at hi
   refine(h.ri i s hi).turn hgr.size (fun b hlt hP=>hgr.block b hlt ?_) hoff
   rcases hP with hP|hP
   ·exact hne b hP
   ·exact fun e=>h.ap i k s r b hik hi hk hP e.symm
def setL:List Value→Nat→List Value→List Value
 | cs,_,[]=>cs
 | cs,o,v::vs=>setL (cs.set o v) (o+1) vs
theorem blk_setCells{b:Nat}:∀(vs:List Value) (o:Nat) (cs:List Value) (W:World),Blk W b cs.toArray→Blk (W.setCells b o vs) b (setL cs o vs).toArray
 | [],_,_,_,h=>h
 | v::vs,o,cs,W,h=>by
  rw [World.setCells,setL]
  refine blk_setCells vs (o+1) (cs.set o v) _ ?_
  have:=h.set o v
  simpa using this
theorem setCells_grown(b:Nat):∀(vs:List Value) (o:Nat) (W:World),W.grownBy (W.setCells b o vs) (some b)
 | [],_,W=>⟨rfl,rfl,rfl,Nat.le_refl _,fun _ _ _=>rfl⟩
 | v::vs,o,W=>by
  rw [World.setCells]
  refine grown_trans ?_ (setCells_grown b vs (o+1) _)
  exact⟨rfl,rfl,rfl,by rw [World.size_setCell];exact Nat.le_refl _,fun k hk hn=>by
   have:b ≠ k:=fun e=>hn (by rw [e])
   simp [World.setCell,Array.getElem?_modify,this]⟩
theorem Fm.set{k b:Nat}{cs:List Value}(h:Fm w g Kp W R Ds)(hk:R[k]?=some (.blk b cs))(o:Nat)(vs:List Value):Fm w g Kp (W.setCells b o vs) (R.set k (.blk b (setL cs o vs))) Ds:=
 h.turn hk (setCells_grown b vs o W) (fun b' e => .inl e) fun _=>⟨(h.fpl hk rfl).1,blk_setCells vs o cs W (h.ri k _ hk).2⟩
theorem Fm.close{k:Nat}{v:Value}{e:TypeId}{size:Nat}{rows:List (List D)}(h:Fm w g Kp W R Ds)(hk:R[k]?=some (.row v e size rows)):Fm w g Kp W (R.set k dead) ((v,.list size rows)::Ds):=by
 have hkl:k<R.length:=(List.getElem?_eq_some_iff.1 hk).1
 have h':Fm w g Kp W (R.set k dead) Ds:=h.turn hk ⟨rfl,rfl,rfl,Nat.le_refl _,fun _ _ _=>rfl⟩ (fun b e=>by simp [RI.fp,Value.ownBlock]at e) fun _=>⟨fun r h=>(by cases h),[],World.ownsRow_nil _ _ _ _,row_nil _ _⟩
 refine⟨h'.gr,h'.hg,h'.st,h'.kp,h'.ap,h'.ri,fun i v' d' hi=>?_⟩
 cases i with
 | succ i=>simp at hi;exact h'.da i v' d' hi
 | zero =>
  simp at hi;obtain⟨rfl,rfl⟩:=hi
  obtain⟨hl,xs,ho,hr⟩:=h.ri k _ hk
  have hoff:∀ b,Off w.heap.size R b→Off w.heap.size (R.set k dead) b:=fun b hb=>⟨hb.1,fun i r hi=>by
   by_cases hik:i=k
   ·subst hik
    rw [List.getElem?_set_self hkl]at hi
    simp only [Option.some.injEq]at hi;subst hi
    simp [RI.fp,Value.ownBlock]
   ·rw [List.getElem?_set_ne (Ne.symm hik)]at hi;exact hb.2 i r hi⟩
  have hown:∀ b,v.ownBlock=some b→Off w.heap.size (R.set k dead) b:=fun b hb=>⟨(ho.lt b hb).1,fun i r hi=>by
   by_cases hik:i=k
   ·subst hik
    rw [List.getElem?_set_self hkl]at hi
    simp only [Option.some.injEq]at hi;subst hi
    simp [RI.fp,Value.ownBlock]
   ·rw [List.getElem?_set_ne (Ne.symm hik)]at hi
    exact h.ap k i _ r b (Ne.symm hik) hk hi hb⟩
  refine is_of_reads rfl hl (Reads.of_owns ho) hown (fun b off c e=>hown b (by rw [e];rfl)) (hr.imp fun x d hx=>hx.mono hoff)
theorem reads_of_blk{W:World}{b n size:Nat}{cs:List Value}(h:Blk W b cs.toArray)(hs:cs.length=n * size)(hm:n≤maxLen):Reads W (.slice (some ⟨b,0,none⟩) n n) n size cs:=by
 refine⟨by simpa using hs,.inr ⟨b,0,n,rfl,Nat.le_refl _,hm,h.lt,fun j u hu=>?_⟩⟩
 rw [Nat.zero_add,h.cell j]
 simpa using hu
theorem Fm.shutB{k b:Nat}{cs:List Value}(h:Fm w g Kp W R Ds)(hk:R[k]?=some (.blk b cs))(n size:Nat)(rows:List (List D))(hc:cs.length=n * size)(hn:rows.length=n)(hl:∀ row∈rows,row.length=size)(hr:Row W (Off w.heap.size R) cs rows.flatten)(hm:n≤maxLen) :
  Fm w g Kp W (R.set k dead) ((.slice (some ⟨b,0,none⟩) n n,.list size rows)::Ds):=by
 have hkl:k<R.length:=(List.getElem?_eq_some_iff.1 hk).1
 have h':Fm w g Kp W (R.set k dead) Ds:=h.turn hk ⟨rfl,rfl,rfl,Nat.le_refl _,fun _ _ _=>rfl⟩ (fun b e=>by simp [RI.fp,Value.ownBlock]at e) fun _=>⟨fun r h=>(by cases h),[],World.ownsRow_nil _ _ _ _,row_nil _ _⟩
 refine⟨h'.gr,h'.hg,h'.st,h'.kp,h'.ap,h'.ri,fun i v' d' hi=>?_⟩
 cases i with
 | succ i=>simp at hi;exact h'.da i v' d' hi
 | zero =>
  simp at hi;obtain⟨rfl,rfl⟩:=hi
  obtain⟨hlo,hb⟩:=h.ri k _ hk
  have hset:∀(i:Nat) (r:RI),(R.set k dead)[i]?=some r→∀ b',r.fp=some b'→b' ≠ b:=fun i r hi b' hb'=>by
   by_cases hik:i=k
   ·subst hik
    rw [List.getElem?_set_self hkl]at hi
    simp only [Option.some.injEq]at hi;subst hi
    simp [RI.fp,Value.ownBlock]at hb'
   ·rw [List.getElem?_set_ne (Ne.symm hik)]at hi
    intro e;subst e
    exact h.ap i k r _ b' hik hi hk hb' rfl
  have hoff:∀ b,Off w.heap.size R b→Off w.heap.size (R.set k dead) b:=fun b hb=>⟨hb.1,fun i r hi=>by
   by_cases hik:i=k
   ·subst hik
    rw [List.getElem?_set_self hkl]at hi
    simp only [Option.some.injEq]at hi;subst hi
    simp [RI.fp,Value.ownBlock]
   ·rw [List.getElem?_set_ne (Ne.symm hik)]at hi;exact hb.2 i r hi⟩
  have hown:Off w.heap.size (R.set k dead) b:=⟨hlo,fun i r hi e=>hset i r hi b e rfl⟩
  refine is_of_reads hn hl (reads_of_blk hb hc hm) (fun b' e=>by simp [Value.ownBlock]at e;subst e;exact hown) (fun b' o c e=>by cases e;exact hown) (hr.imp fun x d hx=>hx.mono hoff)
theorem Fm.own(h:Fm w g Kp W R Ds)(e:TypeId)(size:Nat):Fm w g Kp W (nilR e size::R) Ds:=by
 have hoff:∀ b,Off w.heap.size R b→Off w.heap.size (nilR e size::R) b:=fun b hb=>⟨hb.1,fun i r hi=>by
  cases i with
  | zero=>simp at hi;subst hi;simp [RI.fp,Value.ownBlock]
  | succ i=>simp at hi;exact hb.2 i r hi⟩
 refine⟨h.gr,h.hg,h.st,h.kp,fun i j r s b hij hi hj hb=>?_,fun i r hi=>?_,fun i v d hi=>(h.da i v d hi).mono hoff⟩
 ·cases i with
  | zero=>simp at hi;subst hi;simp [RI.fp,Value.ownBlock]at hb
  | succ i =>
   cases j with
   | zero=>simp at hj;subst hj;simp [RI.fp,Value.ownBlock]
   | succ j=>simp at hi hj;exact h.ap i j r s b (by omega) hi hj hb
 ·cases i with
  | zero=>simp at hi;subst hi;exact⟨fun r h=>(by cases h),[],World.ownsRow_nil _ _ _ _,row_nil _ _⟩
  | succ i=>simp at hi;exact(h.ri i r hi).turn (Nat.le_refl _) (fun _ _ _=>rfl) (fun b hb _=>hoff b hb)
theorem Fm.pick(h:Fm w g Kp W R Ds)(ks ds:List Nat)(hn:ks.Nodup)(hk:∀ k∈ks,k<R.length)(hd:∀ k∈ds,k<Ds.length):Fm w g Kp W (ks.map fun k=>R.getD k dead) (ds.map fun k=>Ds.getD k (.nilIface,.int 0)):=by
 have hget:∀(i:Nat) (r:RI),(ks.map fun k=>R.getD k dead)[i]?=some r→∃ k,ks[i]?=some k∧R[k]?=some r:=fun i r hi=>by
  rw [List.getElem?_map]at hi
  cases hki:ks[i]? with
  | none=>rw [hki]at hi;simp at hi
  | some k =>
   rw [hki]at hi;simp at hi
   have hlt:=hk k (List.mem_of_getElem? hki)
   refine⟨k,rfl,?_⟩
   rw [List.getElem?_eq_getElem hlt]at hi ⊢
   simpa using hi
 have hoff:∀ b,Off w.heap.size R b→Off w.heap.size (ks.map fun k=>R.getD k dead) b:=fun b hb=>⟨hb.1,fun i r hi=>by
  obtain⟨k,_,h2⟩:=hget i r hi
  exact hb.2 k r h2⟩
 refine⟨h.gr,h.hg,h.st,h.kp,fun i j r s b hij hi hj hb=>?_,fun i r hi=>?_,fun i v d hi=>?_⟩
 ·obtain⟨k,hk1,hk2⟩:=hget i r hi
  obtain⟨m,hm1,hm2⟩:=hget j s hj
  refine h.ap k m r s b (fun e=>?_) hk2 hm2 hb
  subst e
  have hi':=(List.getElem?_eq_some_iff.1 hk1).1
  exact hij ((List.getElem?_inj hi' hn).1 (hk1.trans hm1.symm))
 ·obtain⟨k,hk1,hk2⟩:=hget i r hi
  exact(h.ri k r hk2).turn (Nat.le_refl _) (fun _ _ _=>rfl) (fun b hb _=>hoff b hb)
 ·rw [List.getElem?_map]at hi
  cases hki:ds[i]? with
  | none=>rw [hki]at hi;simp at hi
  | some k =>
   rw [hki]at hi;simp at hi
   have hlt:=hd k (List.mem_of_getElem? hki)
   rw [List.getElem?_eq_getElem hlt]at hi
   simp at hi
   exact(h.da k v d (by rw [List.getElem?_eq_getElem hlt];simp [hi])).mono hoff
theorem Fm.out(h:Fm w g Kp W R Ds)(i:Nat){v:Value}{d:D}(hi:Ds[i]?=some (v,d)):Is W (fun b=>w.heap.size≤b) v d:=(h.da i v d hi).mono fun _ hb=>hb.1
theorem Fm.isM(h:Fm w g Kp W R Ds){v:Value}{d:D}(hv:(v,d)∈Ds):Is W (Off w.heap.size R) v d:=by
 obtain⟨i,hi,he⟩:=List.getElem_of_mem hv
 exact h.da i _ _ ((List.getElem?_eq_getElem hi).trans (congrArg some he))
theorem Fm.oneM(h:Fm w g Kp W R Ds){v:Value}(hv:v∈Ds.map Prod.fst):v.oneCell'=true:=by
 obtain⟨p,hp,rfl⟩:=List.mem_map.1 hv
 exact(h.isM (d:=p.2) hp).one
theorem Fm.cellAt(h:Fm w g Kp W R Ds)(k:Nat){b:Nat}{cs:List Value}(hk:R[k]?=some (.blk b cs))(i:Nat){v:Value}(hv:cs[i]?=some v):W.cell? ⟨b,i,none⟩=some v:=by
 rw [(h.ri k _ hk).2.cell];simpa using hv
theorem Fm.ltAt(h:Fm w g Kp W R Ds)(k:Nat){b:Nat}{cs:List Value}(hk:R[k]?=some (.blk b cs)):b<W.heap.size:=(h.ri k _ hk).2.lt
theorem Fm.at(h:Fm w g Kp W R Ds)(k:Nat){b:Nat}{cs:List Value}(hk:R[k]?=some (.blk b cs)):Blk W b cs.toArray:=(h.ri k _ hk).2
end
end Fr
namespace Fr
open Da Tr
structure TyIs(P:Program)(T:TypeId)(z:List Value)(bytes:Nat):Prop where
 info:∃(i:TypeInfo) (v:Value),P.info? T=some i∧i.zero=some v∧v.cells=z.toArray∧i.size=z.length∧i.bytes=bytes
theorem tyIs_of{P:Program}{T:TypeId}{z:List Value}{bytes:Nat}(h:(P.info? T).map (fun i=>(i.zero.map (fun v=>v.cells.toList),i.size,i.bytes))=some (some z,z.length,bytes)):TyIs P T z bytes:=by
 cases hi:P.info? T with
 | none=>rw [hi]at h;simp at h
 | some i =>
  rw [hi]at h
  simp only [Option.map_some,Option.some.injEq,Prod.mk.injEq,Option.map_eq_some_iff]at h
  obtain⟨⟨v,h1,h2⟩,h3,h4⟩:=h
  exact⟨i,v,hi,h1,by rw [← h2],h3,h4⟩
section
variable {P:Program} {o:Oper} {a:Act} {K:Act→World→Prop} {Q:Exit→Act→World→Prop}
variable {w W:World} {g:Option Nat} {Kp:World→Prop} {R:List RI} {Ds:List (Value × D)}
def evalQ(a:Act):Operand→Option Value
 | .tmp t=>a.tmps.toList[t]?
 | .const v=>some v
 | _=>none
theorem evalQ_eval{x:Operand}{v:Value}(h:evalQ a x=some v):a.eval x=v:=by
 cases x with
 | tmp t=>simp only [evalQ,Array.getElem?_toList]at h;simp [Act.eval,h]
 | const c=>simp only [evalQ,Option.some.injEq]at h;subst h;rfl
 | global g=>cases h
 | func f=>cases h
theorem cells_one{v:Value}(h:v.oneCell'=true):v.cells=[v].toArray:=by cases v <;> first|rfl|cases h
theorem Fm.rowOne(h:Fm w g Kp W R Ds)(k:Nat){v:Value}{e:TypeId}{size:Nat}{rows:List (List D)}(hk:R[k]?=some (.row v e size rows)):v.oneCell'=true:=by
 obtain⟨_,xs,ho,_⟩:=h.ri k _ hk
 rcases ho.2 with⟨rfl,_⟩|⟨b,cap,cur,rfl,_⟩ <;> rfl
theorem ow_alloc(h:Fm w g Kp W R Ds){T:TypeId}{z:List Value}{bytes:Nat}(hT:TyIs P T z bytes)(ho:o.op=.alloc T)
  (hK:∀(b:Nat) (W':World),Fm w g Kp W' (.blk b z::R) Ds→K (a.put o.dst (.pointer (some ⟨b,0,none⟩))) W'):o.wp P a W K Q:=by
 obtain⟨i,v,hi,hz,hv,_,_⟩:=hT.info
 unfold Oper.wp execOp
 simp only [ho,Sem.run_bind,Instr.alloc,zeroValue,typeInfo,newVar,newRow]
 simp [hi,hz,hv]
 exact hK _ _ (h.alloc z T)
theorem ow_box(h:Fm w g Kp W R Ds){T:TypeId}{x:Operand}(ho:o.op=.box T x){cs:List Value}{xv:Value}(hxv:evalQ a x=some xv)(hx':xv.cells=cs.toArray)
  (hK:∀(b:Nat) (W':World),Fm w g Kp W' (.blk b cs::R) Ds→K (a.put o.dst (.pointer (some ⟨b,0,none⟩))) W'):o.wp P a W K Q:=by
 have hx:(a.eval x).cells=cs.toArray:=by rw [evalQ_eval hxv];exact hx'
 unfold Oper.wp execOp
 simp only [ho,Sem.run_bind,Instr.box,newVar,newRow]
 simp [hx]
 exact hK _ _ (h.alloc cs T)
theorem run_storeVar_all(b off:Nat)(ty:TypeId)(v:Value)(cs:List Value)(hv:v.cells=cs.toArray)(ht:W.there b off cs.length)(hi:(P.info? ty).map (·.size)=some cs.length)(h1:∀ x∈cs,x.oneCell'=true) :
  (storeVar ty ⟨b,off,none⟩ v).run P W=.ok () (W.setCells b off cs):=by
 have:=run_storeCells_cells (P:=P) b off cs 0 W (fun j hj=>by simpa using(ht j hj).1) (fun j hj=>by simpa using(ht j hj).2) h1
 cases hq:P.info? ty with
 | none=>simp [hq]at hi
 | some i =>
  have hs:cs.length=i.size:=by simp [hq]at hi;omega
  simp only [Nat.add_zero]at this
  simp [storeVar,sizeOf,typeInfo,hq,hv,hs,this]
theorem blk_there{b:Nat}{cs:List Value}(hb:Blk W b cs.toArray)(off n:Nat)(hl:off+n≤cs.length):W.there b off n:=fun j hj=>by
 refine⟨?_,hb.free _⟩
 rw [hb.cell]
 have:off+j<cs.length:=by omega
 simp [this]
theorem ow_store(k:Nat)(h:Fm w g Kp W R Ds){T:TypeId}{z:List Value}{bytes:Nat}(hT:TyIs P T z bytes){x y:Operand}(ho:o.op=.store T x y){b off:Nat}{cs vs:List Value}(hx:a.eval x=.pointer (some ⟨b,off,none⟩))(hk:R[k]?=some (.blk b cs))
  {yv:Value} (hyv:evalQ a y=some yv) (hy':yv.cells=vs.toArray) (hz:vs.length=z.length) (hl:off+vs.length≤cs.length) (h1:∀ v∈vs,v.oneCell'=true)
  (hK:∀ W':World,Fm w g Kp W' (R.set k (.blk b (setL cs off vs))) Ds→K (a.put o.dst undef) W'):o.wp P a W K Q:=by
 have hy:(a.eval y).cells=vs.toArray:=by rw [evalQ_eval hyv];exact hy'
 obtain⟨i,v,hi,_,_,hs,_⟩:=hT.info
 have hr:=run_storeVar_all (P:=P) (W:=W) b off T (a.eval y) vs hy (blk_there (h.at k hk) off vs.length hl) (by rw [hi,hz];simp [hs]) h1
 unfold Oper.wp execOp
 simp only [ho,hx,Instr.storeAt,Instr.sureAddr,Sem.run_bind,Sem.run_pure,Result.andThen_ok,hr]
 exact hK _ (h.set hk off vs)
theorem ow_store1(k:Nat)(h:Fm w g Kp W R Ds){T:TypeId}{z:List Value}{bytes:Nat}(hT:TyIs P T z bytes){x y:Operand}(ho:o.op=.store T x y){b off:Nat}{cs:List Value}(hx:a.eval x=.pointer (some ⟨b,off,none⟩))(hk:R[k]?=some (.blk b cs))
  {yv:Value} (hyv:evalQ a y=some yv) (hz:1=z.length) (hl:Nat.ble (off+1) cs.length=true) (h1:yv.oneCell'=true)
  (hK:∀ W':World,Fm w g Kp W' (R.set k (.blk b (setL cs off [yv]))) Ds→K (a.put o.dst undef) W'):o.wp P a W K Q:=
 ow_store k h hT ho hx hk hyv (cells_one h1) hz (Nat.le_of_ble_eq_true hl) (fun v hv=>by simp at hv;subst hv;exact h1) hK
theorem run_loadVar_cell(b off:Nat)(ty:TypeId)(v:Value)(d:TypeDesc)(hc:W.cell? ⟨b,off,none⟩=some v)(hu:P.underlying ty=some d)(hd:d.isRow=false):(loadVar ty ⟨b,off,none⟩).run P W=.ok v W:=by
 have hagg:(isAgg ty).run P W=.ok false W:=by
  unfold isAgg
  rw [Sem.run_bind,run_underlying hu W]
  cases d <;> simp_all
 simp [loadVar,Sem.run_bind,hagg,hc]
theorem ow_load(k:Nat)(h:Fm w g Kp W R Ds){T:TypeId}{x:Operand}(ho:o.op=.load T x){b:Nat}{cs:List Value}(hx:a.eval x=.pointer (some ⟨b,0,none⟩))(hk:R[k]?=some (.blk b cs)){d:TypeDesc}(hu:P.underlying T=some d)(hd:d.isRow=true){z:List Value}{bytes:Nat}(hT:TyIs P T z bytes)(hz:cs.length=z.length)
  (hK:K (a.put o.dst (.agg cs.toArray)) W):o.wp P a W K Q:=by
 obtain⟨i,v,hi,_,_,hs,_⟩:=hT.info
 refine wp_load_mid T x ho b 0 hx cs d (fun j v hv=>?_) hu hd (by rw [hi];simp [hs,hz]) hK
 rw [(h.at k hk).cell]
 simpa using hv
theorem ow_load1(k:Nat)(h:Fm w g Kp W R Ds){T:TypeId}{x:Operand}(ho:o.op=.load T x){b off:Nat}{cs:List Value}(hx:a.eval x=.pointer (some ⟨b,off,none⟩))(hk:R[k]?=some (.blk b cs)){d:TypeDesc}(hu:P.underlying T=some d)(hd:d.isRow=false){v:Value}(hv:cs[off]?=some v)
  (hK:K (a.put o.dst v) W):o.wp P a W K Q:=by
 have hr:=run_loadVar_cell (P:=P) b off T v d (by rw [(h.at k hk).cell];simpa using hv) hu hd
 unfold Oper.wp execOp
 simp only [ho,hx,Instr.loadAt,Instr.sureAddr,Sem.run_bind,Sem.run_pure,Result.andThen_ok,hr]
 exact hK
theorem fold_set(off:Nat):∀(l:List Value) (k:Nat) (c:Array Value) (i:Nat),((l.zipIdx k).foldl (fun cs (x:Value × Nat)=>cs.setIfInBounds (off+x.2) x.1) c)[i]?=if off+k≤i∧i<off+k+l.length∧i<c.size then l[i - off - k]? else c[i]?
 | [],k,c,i=>by simp;omega
 | v::l,k,c,i=>by
  rw [List.zipIdx_cons,List.foldl_cons,fold_set off l (k+1)]
  simp only [Array.size_setIfInBounds,List.length_cons]
  by_cases h1:off+(k+1)≤i∧i<off+(k+1)+l.length∧i<c.size
  ·rw [if_pos h1,if_pos (by omega)]
   obtain⟨m,hm⟩:∃ m,i - off - k=m+1:=⟨i - off - k - 1,by omega⟩
   rw [hm,List.getElem?_cons_succ,show i - off - (k+1)=m by omega]
  ·rw [if_neg h1,Array.getElem?_setIfInBounds]
   by_cases h2:off+k=i
   ·subst h2
    by_cases h3:off+k<c.size
    ·simp [h3]
    ·simp [h3]
   ·rw [if_neg h2,if_neg (by omega)]
theorem fill_one(s:Nat)(v:Value)(cs:List Value)(c0:Array Value)(hv:v.cells=cs.toArray)(hs:cs.length=s)(h0:c0.size=s):Instr.fill (fun i=>some (i * s,s)) c0 [(0,v)]=some cs.toArray:=by
 have hsz:v.cells.size=s:=by rw [hv];simpa using hs
 simp only [Instr.fill,Nat.zero_mul,Nat.zero_add,ne_eq,hsz,not_true_eq_false,h0,Nat.lt_irrefl,gt_iff_lt,decide_false,Bool.or_self,if_false,Bool.false_eq_true]
 simp only [or_self,if_false,Option.some.injEq]
 apply Array.ext_getElem?
 intro i
 have hf:(v.cells.zipIdx.foldl (fun cs (x:Value × Nat)=>cs.setIfInBounds x.2 x.1) c0)=((cs.zipIdx 0).foldl (fun cs (x:Value × Nat)=>cs.setIfInBounds (0+x.2) x.1) c0):=by
  rw [hv,← Array.foldl_toList]
  simp
 have:=fold_set 0 cs 0 c0 i
 simp only [Nat.zero_add,Nat.sub_zero]at this
 simp only [Nat.zero_add]at hf
 rw [hf,this]
 by_cases h:i<cs.length
 ·rw [if_pos ⟨Nat.zero_le _,h,by omega⟩];simp
 ·rw [if_neg (by omega)]
  simp [h];omega
theorem fill_two(s:Nat)(v u:Value)(cs ds:List Value)(c0:Array Value)(hv:v.cells=cs.toArray)(hu:u.cells=ds.toArray)(hs:cs.length=s)(ht:ds.length=s)(h0:c0.size=2 * s):Instr.fill (fun i=>some (i * s,s)) c0 [(0,v),(1,u)]=some (cs++ds).toArray:=by
 have hsz:v.cells.size=s:=by rw [hv];simpa using hs
 have htz:u.cells.size=s:=by rw [hu];simpa using ht
 have hf:∀(off:Nat) (x:Value) (l:List Value) (c:Array Value),x.cells=l.toArray→(x.cells.zipIdx.foldl (fun cs (x:Value × Nat)=>cs.setIfInBounds (off+x.2) x.1) c)=((l.zipIdx 0).foldl (fun cs (x:Value × Nat)=>cs.setIfInBounds (off+x.2) x.1) c):=fun off x l c hx=>by
  rw [hx,← Array.foldl_toList]
  simp
 have hsize:∀(l:List (Value × Nat)) (off:Nat) (c:Array Value),(l.foldl (fun cs (x:Value × Nat)=>cs.setIfInBounds (off+x.2) x.1) c).size=c.size:=fun l off=>by
  induction l with
  | nil=>intro c;rfl
  | cons x l ih=>intro c;rw [List.foldl_cons,ih];simp
 simp only [Instr.fill,hsz,htz]
 rw [if_neg (by simp;omega),if_neg]
 ·simp only [Option.some.injEq]
  apply Array.ext_getElem?
  intro i
  rw [hf _ u ds _ hu,hf _ v cs _ hv,fold_set,fold_set,hsize]
  simp only [Nat.add_zero,Nat.sub_zero,Nat.zero_mul,Nat.zero_add,Nat.one_mul]
  by_cases h1:i<s
  ·rw [if_neg (by omega),if_pos (by omega)]
   simp [List.getElem?_append_left (show i<cs.length by omega)]
  ·by_cases h2:i<2 * s
   ·rw [if_pos (by omega)]
    simp [List.getElem?_append_right (show cs.length≤i by omega),hs]
   ·rw [if_neg (by omega),if_neg (by omega),Array.getElem?_eq_none (by omega),Array.getElem?_eq_none (by simp;omega)]
 ·rw [hf _ v cs _ hv,hsize];simp;omega
theorem run_lit(T e:TypeId)(n:Nat)(parts:Array (Nat × Value))(cs z:List Value)(bytes:Nat)(hu:P.underlying T=some (.slice e))(hT:TyIs P e z bytes)(hz:z.length≤1000)(hz0:0<z.length)(hn:0<n)(hn2:n≤10)
  (hf:Instr.fill (fun i=>some (i * z.length,z.length)) ((Array.range (n * z.length)).map (z.toArray[· % z.toArray.size]!)) parts.toList=some cs.toArray) :
  (Instr.buildSlice T n parts).run P W=.ok (.slice (some ⟨W.heap.size,0,none⟩) n n) (W.alloc (.cells cs.toArray e)):=by
 obtain⟨i,v,hi,hv,hc,hs,_⟩:=hT.info
 have h1:n * z.length≤10 * 1000:=Nat.mul_le_mul hn2 hz
 have h2:0<n * z.length:=Nat.mul_pos hn hz0
 exact run_buildSlice W T e n parts cs.toArray i v hu hi hv (by rw [hs];omega) (by rw [hs];omega) (by rw [hs,hc];exact hf)
theorem Fm.lit(h:Fm w g Kp W R Ds)(cs:List Value)(e:TypeId)(n size:Nat)(rows:List (List D))(hc:cs.length=n * size)(hn:rows.length=n)(hl:∀ row∈rows,row.length=size)(hr:Row W (Off w.heap.size R) cs rows.flatten)(hm:n≤maxLen) :
  Fm w g Kp (W.alloc (.cells cs.toArray e)) R ((.slice (some ⟨W.heap.size,0,none⟩) n n,.list size rows)::Ds):=by
 have h1:=h.alloc cs e
 have hal:∀ b,Off w.heap.size R b→b<W.heap.size→Off w.heap.size (.blk W.heap.size cs::R) b:=fun b hb hlt=>⟨hb.1,fun i r hi=>by
  cases i with
  | zero=>simp at hi;subst hi;intro e;simp [RI.fp]at e;omega
  | succ i=>simp at hi;exact hb.2 i r hi⟩
 have h2:=h1.shutB (k:=0) rfl n size rows hc hn hl (hr.imp fun x d hd=>is_turn hd (by simp) (fun b _ hlt=>((Below.refl W.heap.size W).alloc (Nat.le_refl _) _).block b hlt) hal) hm
 have h3:=h2.pick ((List.range R.length).map (·+1)) (List.range (Ds.length+1)) (by
  rw [List.nodup_iff_pairwise_ne,List.pairwise_map]
  exact(List.nodup_range).imp fun h=>by omega) (by intro k hk;simp at hk ⊢;omega) (by intro k hk;simp at hk ⊢;omega)
 have e1:((List.range R.length).map (·+1)).map (fun k=>((.blk W.heap.size cs::R).set 0 dead).getD k dead)=R:=by
  apply List.ext_getElem?
  intro i
  by_cases hi:i<R.length
  ·simp [hi]
  ·simp [hi]
 have e2:(List.range (Ds.length+1)).map (fun k=>(((Value.slice (some ⟨W.heap.size,0,none⟩) n n,D.list size rows)::Ds):List (Value × D)).getD k (.nilIface,.int 0))=(Value.slice (some ⟨W.heap.size,0,none⟩) n n,D.list size rows)::Ds:=by
  apply List.ext_getElem?
  intro i
  by_cases hi:i<Ds.length+1
  ·rw [List.getElem?_map,List.getElem?_range hi,List.getElem?_eq_getElem (by simpa using hi)]
   simp [List.getD,List.getElem?_eq_getElem (show i<((Value.slice (some ⟨W.heap.size,0,none⟩) n n,D.list size rows)::Ds).length by simpa using hi)]
  ·simp [hi]
 rwa [e1,e2]at h3
theorem ow_lit1(h:Fm w g Kp W R Ds){T e:TypeId}{z:List Value}{bytes:Nat}(hu:P.underlying T=some (.slice e))(hT:TyIs P e z bytes)(hz:z.length≤1000)(hz0:0<z.length){x:Operand}(ho:o.op=.buildSlice T 1 #[(0,x)]){cs:List Value}{xv:Value}(hxv:evalQ a x=some xv)(hx':xv.cells=cs.toArray)(hl:cs.length=z.length){row:List D}(hr:Row W (Off w.heap.size R) cs row)
  (hK:∀(b:Nat) (W':World),Fm w g Kp W' R ((.slice (some ⟨b,0,none⟩) 1 1,.list z.length [row])::Ds)→K (a.put o.dst (.slice (some ⟨b,0,none⟩) 1 1)) W'):o.wp P a W K Q:=by
 have hx:(a.eval x).cells=cs.toArray:=by rw [evalQ_eval hxv];exact hx'
 have hrun:=run_lit (P:=P) (W:=W) T e 1 #[(0,a.eval x)] cs z bytes hu hT hz hz0 (by decide) (by decide) (fill_one z.length (a.eval x) cs _ hx hl (by simp))
 unfold Oper.wp execOp
 simp only [ho,Sem.run_bind,List.map_toArray,List.map_cons,List.map_nil,hrun,Result.andThen_ok,Sem.run_pure]
 exact hK _ _ (h.lit cs e 1 z.length [row] (by rw [hl,Nat.one_mul]) rfl (fun r hr'=>by simp at hr';subst hr';rw [← hr.1,hl]) (by simpa using hr) (by decide))
theorem ow_lit2(h:Fm w g Kp W R Ds){T e:TypeId}{z:List Value}{bytes:Nat}(hu:P.underlying T=some (.slice e))(hT:TyIs P e z bytes)(hz:z.length≤1000)(hz0:0<z.length){x y:Operand}(ho:o.op=.buildSlice T 2 #[(0,x),(1,y)]){cs ds:List Value}{xv yv:Value}(hxv:evalQ a x=some xv)(hyv:evalQ a y=some yv)(hx':xv.cells=cs.toArray)(hy':yv.cells=ds.toArray)(hl:cs.length=z.length)(hl2:ds.length=z.length){row row2:List D}(hr:Row W (Off w.heap.size R) cs row)(hr2:Row W (Off w.heap.size R) ds row2)
  (hK:∀(b:Nat) (W':World),Fm w g Kp W' R ((.slice (some ⟨b,0,none⟩) 2 2,.list z.length [row,row2])::Ds)→K (a.put o.dst (.slice (some ⟨b,0,none⟩) 2 2)) W'):o.wp P a W K Q:=by
 have hx:(a.eval x).cells=cs.toArray:=by rw [evalQ_eval hxv];exact hx'
 have hy:(a.eval y).cells=ds.toArray:=by rw [evalQ_eval hyv];exact hy'
 have hrun:=run_lit (P:=P) (W:=W) T e 2 #[(0,a.eval x),(1,a.eval y)] (cs++ds) z bytes hu hT hz hz0 (by decide) (by decide) (fill_two z.length (a.eval x) (a.eval y) cs ds _ hx hy hl hl2 (by simp))
 unfold Oper.wp execOp
 simp only [ho,Sem.run_bind,List.map_toArray,List.map_cons,List.map_nil,hrun,Result.andThen_ok,Sem.run_pure]
 exact hK _ _ (h.lit (cs++ds) e 2 z.length [row,row2] (by simp;omega) rfl (fun r hr'=>by simp at hr';rcases hr' with rfl|rfl;rw [← hr.1,hl];rw [← hr2.1,hl2]) (by simpa using row_app hr hr2) (by decide))
theorem run_append_data(base:Nat)(t ty e:TypeId)(i:TypeInfo)(z:Value)(size bytes:Nat)(ht:P.underlying t=some (.slice e))(hi:P.info? e=some i)(hz:i.zero=some z)(hsize:i.size=size)(hby:i.bytes=bytes)(hzs:z.cells.size=size)(hsz:0<size)
  (v:Value) (n:Nat) (xs:List Value) (hown:W.ownsRow base e size v n xs) (u:Value) (m:Nat) (ys:List Value) (hR:Reads W u m size ys) (h1:∀ x∈ys,x.oneCell'=true)
  (h63:n+m≤maxLen) (hbytes:(n+m) * bytes≤140737488355328) (hbase:base≤W.heap.size) :
  ∃ v' W',(Builtin.append_ #[t,t] ty #[v,u]).run P W=.ok v' W'∧W'.ownsRow base e size v' (n+m) (xs++ys)∧W.grownBy W' v.ownBlock∧(∀ b,v'.ownBlock=some b→v.ownBlock=some b∨W.heap.size≤b):=by
 have hrefl:W.grownBy W v.ownBlock:=⟨rfl,rfl,rfl,Nat.le_refl _,fun _ _ _=>rfl⟩
 have hcase:∀(ad:Addr) (c:Nat),(∀ j x,ys[j]?=some x→W.cell? (ad.add j)=some x)→u=.slice (some ad) m c →
   ∃ v' W',(Builtin.append_ #[t,t] ty #[v,u]).run P W=.ok v' W'∧W'.ownsRow base e size v' (n+m) (xs++ys)∧W.grownBy W' v.ownBlock∧(∀ b,v'.ownBlock=some b→v.ownBlock=some b∨W.heap.size≤b):=by
  intro ad c hc hu
  subst hu
  by_cases hm0:0<m
  ·exact run_append_where (P:=P) base t ty e i z size bytes ht hi hz hsize hby hzs hsz v n xs hown ad m c ys hR.1 hc h1 hm0 h63 hbytes hbase
  ·have hm:m=0:=by omega
   subst hm
   have hy:ys=[]:=List.eq_nil_of_length_eq_zero (by have:=hR.1;omega)
   subst hy
   refine⟨v,W,?_,by simpa using hown,hrefl,fun b hb => .inl hb⟩
   rcases hown.2 with⟨rfl,rfl⟩|⟨g,cap,cur,rfl,_,_,hnc,_⟩
   ·simp [Builtin.append_,run_underlying ht,sizeOf,typeInfo,hi,Builtin.lenOf,Builtin.firstCells,loadCells,loadCellsFrom]
   ·simp [Builtin.append_,run_underlying ht,sizeOf,typeInfo,hi,Builtin.lenOf,Builtin.firstCells,hnc,storeCells,loadCells,loadCellsFrom]
 rcases hR.2 with⟨hm0,ad,c,hu,hc⟩|⟨b,off,cap,hu,h2,h3,h4,h5⟩
 ·subst hm0
  have hy:ys=[]:=List.eq_nil_of_length_eq_zero (by have:=hR.1;omega)
  cases ad with
  | none =>
   subst hu;subst hy
   exact⟨v,W,run_append_none base t ty e i size ht hi v n xs hown c,by simpa using hown,hrefl,fun b hb => .inl hb⟩
  | some ad=>exact hcase ad c (by subst hy;simp) hu
 ·refine hcase ⟨b,off,none⟩ cap (fun j x hx=>?_) hu
  have:=h5 j x hx
  unfold Addr.add
  split
  ·rename_i h;rw [h]at this;exact this
  ·exact this
theorem ow_append(k i:Nat)(h:Fm w g Kp W R Ds){t e:TypeId}{z:List Value}{bytes:Nat}(hu:P.underlying t=some (.slice e))(hT:TyIs P e z bytes)(hz0:0<z.length)(hb0:0<bytes){s x:Operand}(ho:o.op=.call { callee:=.builtin .append,args:=#[s,x],argTypes:=#[t,t] })
  {v u:Value} {size:Nat} {rows rows2:List (List D)} (hs:a.eval s=v) (hk:R[k]?=some (.row v e size rows)) (hsz:z.length=size) (hx:a.eval x=u) (hd:Ds[i]?=some (u,.list size rows2)) (hb:(rows.length+rows2.length) * bytes≤140737488355328)
  (hK:∀(v':Value) (W':World),Fm w g Kp W' (R.set k (.row v' e size (rows++rows2))) Ds→K (a.put o.dst v') W'):o.wp P a W K Q:=by
 subst hsz
 obtain⟨ti,tz,hi,hv,hc,hts,hby⟩:=hT.info
 obtain⟨hl,xs,hown,hr⟩:=h.ri k _ hk
 obtain⟨ys,p,c,hue,hR,hr2,hl2⟩:=(h.da i _ _ hd).reads
 have h63:rows.length+rows2.length≤maxLen:=by
  have:rows.length+rows2.length≤(rows.length+rows2.length) * bytes:=Nat.le_mul_of_pos_right _ hb0
  simp only [maxLen];omega
 obtain⟨v',W',hrun,h1,h2,h3⟩:=run_append_data (P:=P) w.heap.size t o.type e ti tz z.length bytes hu hi hv hts hby (by rw [hc];simp) hz0 v rows.length xs hown u rows2.length ys hR hr2.one h63 hb h.size
 unfold Oper.wp
 simp [execOp,ho,resolve,invoke,builtin,hs,hx,hrun,Result.andThen]
 refine hK _ _ (h.turn hk h2 h3 fun hoff=>⟨fun row hrow=>?_,xs++ys,by rw [List.length_append];exact h1,?_⟩)
 ·rcases List.mem_append.1 hrow with h|h
  ·exact hl row h
  ·exact hl2 row h
 ·rw [List.flatten_append]
  have key:∀ x d,Is W (Off w.heap.size R) x d→Is W' (Off w.heap.size (R.set k (.row v' e z.length (rows++rows2)))) x d:=fun x d hx=>is_turn hx h2.size (fun b hP hlt=>h2.block b hlt (fun e=>hP.2 k _ hk e.symm)) hoff
  exact row_app (hr.imp key) (hr2.imp key)
end
end Fr
namespace Fr
open Da Tr
def setG{α:Type}:List α→Nat→List α→List α
 | cs,_,[]=>cs
 | cs,o,v::vs=>setG (cs.set o v) (o+1) vs
theorem setL_G:∀(vs cs:List Value) (o:Nat),setL cs o vs=setG cs o vs
 | [],_,_=>rfl
 | v::vs,cs,o=>by rw [setL,setG,setL_G vs]
theorem setG_len{α:Type}:∀(vs cs:List α) (o:Nat),(setG cs o vs).length=cs.length
 | [],_,_=>rfl
 | v::vs,cs,o=>by rw [setG,setG_len vs];simp
theorem setG_at{α:Type}:∀(vs cs:List α) (o m:Nat),(setG cs o vs)[m]?=if o≤m∧m<o+vs.length∧m<cs.length then vs[m - o]? else cs[m]?
 | [],cs,o,m=>by simp [setG];omega
 | v::vs,cs,o,m=>by
  rw [setG,setG_at vs]
  simp only [List.length_set,List.length_cons]
  by_cases h1:o+1≤m∧m<o+1+vs.length∧m<cs.length
  ·rw [if_pos h1,if_pos (by omega)]
   obtain⟨i,hi⟩:∃ i,m - o=i+1:=⟨m - o - 1,by omega⟩
   rw [hi,List.getElem?_cons_succ,show m - (o+1)=i by omega]
  ·rw [if_neg h1,List.getElem?_set]
   by_cases h2:o=m
   ·subst h2
    by_cases h3:o<cs.length
    ·simp [h3]
    ·simp [h3]
   ·rw [if_neg h2,if_neg (by omega)]
theorem setG_app{α:Type}(cs ds vs:List α)(o:Nat)(h:o+vs.length≤cs.length):setG (cs++ds) o vs=setG cs o vs++ds:=by
 apply List.ext_getElem?
 intro m
 rw [setG_at]
 by_cases hm:m<cs.length
 ·have e1:(cs++ds)[m]?=cs[m]?:=List.getElem?_append_left hm
  have e2:(setG cs o vs++ds)[m]?=(setG cs o vs)[m]?:=List.getElem?_append_left (by rw [setG_len];exact hm)
  rw [e1,e2,setG_at]
  simp only [List.length_append]
  by_cases h1:o≤m∧m<o+vs.length
  ·rw [if_pos ⟨h1.1,h1.2,by omega⟩,if_pos ⟨h1.1,h1.2,hm⟩]
  ·rw [if_neg (by omega),if_neg (by omega)]
 ·have e1:(cs++ds)[m]?=ds[m - cs.length]?:=List.getElem?_append_right (by omega)
  have e2:(setG cs o vs++ds)[m]?=ds[m - cs.length]?:=by rw [List.getElem?_append_right (by rw [setG_len];omega),setG_len]
  rw [if_neg (by omega),e1,e2]
theorem setG_app2{α:Type}(cs ds vs:List α)(o:Nat)(h:cs.length≤o):setG (cs++ds) o vs=cs++setG ds (o - cs.length) vs:=by
 apply List.ext_getElem?
 intro m
 rw [setG_at]
 by_cases hm:m<cs.length
 ·rw [if_neg (by omega),List.getElem?_append_left hm,List.getElem?_append_left hm]
 ·rw [List.getElem?_append_right (by omega),List.getElem?_append_right (by omega),setG_at]
  simp only [List.length_append]
  by_cases h1:o≤m∧m<o+vs.length∧m<cs.length+ds.length
  ·rw [if_pos h1,if_pos (by omega),show m - o=m - cs.length - (o - cs.length)by omega]
  ·rw [if_neg h1,if_neg (by omega)]
theorem flatten_set{α:Type}(size:Nat):∀(rows:List (List α)) (i j:Nat) (row nd:List α),(∀ r∈rows,r.length=size)→rows[i]?=some row→j+nd.length≤size→(rows.set i (setG row j nd)).flatten=setG rows.flatten (i * size+j) nd
 | [],i,j,row,nd,_,h,_=>by simp at h
 | r::rows,0,j,row,nd,hl,h,hj=>by
  simp at h;subst h
  have:=hl r (List.mem_cons_self ..)
  simp only [List.set_cons_zero,List.flatten_cons,Nat.zero_mul,Nat.zero_add]
  rw [setG_app _ _ _ _ (by omega)]
 | r::rows,i+1,j,row,nd,hl,h,hj=>by
  simp at h
  have hr:=hl r (List.mem_cons_self ..)
  simp only [List.set_cons_succ,List.flatten_cons]
  rw [flatten_set size rows i j row nd (fun x hx=>hl x (List.mem_cons_of_mem _ hx)) h hj,setG_app2 _ _ _ _ (by rw [hr,Nat.succ_mul];omega),hr,Nat.succ_mul]
  congr 2;omega
theorem row_set{W:World}{P:Nat→Prop}{xs vs:List Value}{ds es:List D}(h:Row W P xs ds)(o:Nat)(hv:Row W P vs es):Row W P (setG xs o vs) (setG ds o es):=by
 refine⟨by rw [setG_len,setG_len,h.1],fun j d hd=>?_⟩
 rw [setG_at]at hd ⊢
 rw [h.1,hv.1]
 by_cases h1:o≤j∧j<o+es.length∧j<ds.length
 ·rw [if_pos h1]at hd ⊢;exact hv.2 _ d hd
 ·rw [if_neg h1]at hd ⊢;exact h.2 j d hd
section
variable {P:Program} {o:Oper} {a:Act} {K:Act→World→Prop} {Q:Exit→Act→World→Prop}
variable {w W:World} {g:Option Nat} {Kp:World→Prop} {R:List RI} {Ds:List (Value × D)}
theorem Fm.rowForm(h:Fm w g Kp W R Ds){k:Nat}{v:Value}{e:TypeId}{size:Nat}{rows:List (List D)}(hk:R[k]?=some (.row v e size rows)):(rows=[]∧v=.slice none 0 0)∨∃ b cap:Nat,v=.slice (some ⟨b,0,none⟩) rows.length cap∧rows.length≤cap∧cap≤maxLen:=by
 obtain⟨_,xs,ho,_⟩:=h.ri k _ hk
 rcases ho.2 with⟨h1,h2⟩|⟨b,cap,cur,h1,_,_,h2,h3,_⟩
 ·exact .inl ⟨List.eq_nil_of_length_eq_zero h2,h1⟩
 ·exact .inr ⟨b,cap,h1,h2,h3⟩
theorem blk_setCells'{b:Nat}{e:TypeId}:∀(vs:List Value) (off:Nat) (cur:Array Value) (W:World),W.heap[b]?=some (.cells cur e (0,0))→(W.setCells b off vs).heap[b]?=some (.cells (setG cur.toList off vs).toArray e (0,0))
 | [],_,cur,W,h=>by simpa [World.setCells,setG]using h
 | v::vs,off,cur,W,h=>by
  rw [World.setCells,setG]
  have:=blk_setCells' (b:=b) (e:=e) vs (off+1) (cur.setIfInBounds off v) (W.setCell ⟨b,off,none⟩ v) (by simp [World.setCell,Array.getElem?_modify,h])
  simpa using this
theorem ow_storeRow(k:Nat)(h:Fm w g Kp W R Ds){T:TypeId}{z:List Value}{bytes:Nat}(hT:TyIs P T z bytes){x y:Operand}(ho:o.op=.store T x y){b n cap off:Nat}{e:TypeId}{size:Nat}{rows:List (List D)}{vs:List Value}(hx:a.eval x=.pointer (some ⟨b,off,none⟩))(hk:R[k]?=some (.row (.slice (some ⟨b,0,none⟩) n cap) e size rows))
  (i j:Nat) (hoff:off=i * size+j) {row nd:List D} (hi:rows[i]?=some row) (hj:j+nd.length≤size)
  {yv:Value} (hyv:evalQ a y=some yv) (hy':yv.cells=vs.toArray) (hz:vs.length=z.length) (hr:Row W (Off w.heap.size R) vs nd)
  (hK:∀ W':World,Fm w g Kp W' (R.set k (.row (.slice (some ⟨b,0,none⟩) n cap) e size (rows.set i (setG row j nd)))) Ds→K (a.put o.dst undef) W'):o.wp P a W K Q:=by
 have hy:(a.eval y).cells=vs.toArray:=by rw [evalQ_eval hyv];exact hy'
 obtain⟨ti,tv,hti,_,_,hts,_⟩:=hT.info
 obtain⟨hl,xs,hown,hrow⟩:=h.ri k _ hk
 have hil:i<rows.length:=(List.getElem?_eq_some_iff.1 hi).1
 have hin:i * size+size≤rows.length * size:=by rw [← Nat.succ_mul];exact Nat.mul_le_mul_right _ hil
 obtain⟨hxl,hown⟩:=hown
 rcases hown with⟨h0,_⟩|⟨b',cap',cur,he,hb,hcur,hnc,hcm,hcs,htake⟩
 ·cases h0
 ·simp only [Value.slice.injEq,Option.some.injEq,Addr.mk.injEq]at he
  obtain⟨⟨rfl,_⟩,rfl,rfl⟩:=he
  have hcap:rows.length * size≤cap * size:=Nat.mul_le_mul_right _ hnc
  have hvl:vs.length=nd.length:=hr.1
  have hthere:W.there b off vs.length:=fun m hm=>by
   have h1:off+m<cur.size:=by omega
   exact⟨by simp [World.cell?,hcur,h1],by simp [World.frozen?,hcur]⟩
  have hrun:=run_storeVar_all (P:=P) (W:=W) b off T (a.eval y) vs hy hthere (by rw [hti,hz];simp [hts]) hr.one
  unfold Oper.wp execOp
  simp only [ho,hx,Instr.storeAt,Instr.sureAddr,Sem.run_bind,Sem.run_pure,Result.andThen_ok,hrun]
  refine hK _ (h.turn hk (setCells_grown b vs off W) (fun b' e' => .inl e') fun hQ=>⟨fun r hr'=>?_,setG xs off vs,⟨?_,.inr ⟨b,cap,(setG cur.toList off vs).toArray,by rw [List.length_set],hb,?_,by rw [List.length_set];exact hnc,hcm,by rw [List.size_toArray,setG_len];simpa using hcs,?_⟩⟩,?_⟩)
  ·obtain⟨m,hm⟩:=List.getElem?_of_mem hr'
   by_cases him:i=m
   ·subst him
    rw [List.getElem?_set_self hil]at hm
    simp only [Option.some.injEq]at hm;subst hm;rw [setG_len];exact hl row (List.mem_of_getElem? hi)
   ·rw [List.getElem?_set_ne him]at hm
    exact hl r (List.mem_of_getElem? hm)
  ·rw [setG_len,List.length_set];exact hxl
  ·exact blk_setCells' vs off cur W hcur
  ·rw [List.length_set]
   apply List.ext_getElem?
   intro m
   rw [List.toList_toArray,List.getElem?_take]
   by_cases hm:m<rows.length * size
   ·rw [if_pos hm,setG_at,setG_at,hxl]
    have hmc:m<cur.toList.length:=by simp;omega
    have hx':xs[m]?=cur.toList[m]?:=by rw [← htake,List.getElem?_take,if_pos hm]
    by_cases h1:off≤m∧m<off+vs.length
    ·rw [if_pos ⟨h1.1,h1.2,hmc⟩,if_pos ⟨h1.1,h1.2,hm⟩]
    ·rw [if_neg (by omega),if_neg (by omega),hx']
   ·rw [if_neg hm,List.getElem?_eq_none (by rw [setG_len,hxl];omega)]
  ·rw [flatten_set size rows i j row nd hl hi hj,← hoff]
   have key:∀ x d,Is W (Off w.heap.size R) x d→Is (W.setCells b off vs) (Off w.heap.size (R.set k (.row (.slice (some ⟨b,0,none⟩) rows.length cap) e size (rows.set i (setG row j nd))))) x d:=fun x d hx=>is_turn hx (setCells_grown b vs off W).size (fun b' hP hlt=>(setCells_grown b vs off W).block b' hlt (fun e'=>hP.2 k _ hk e'.symm)) hQ
   exact row_set (hrow.imp key) off (hr.imp key)
theorem ow_loadAt(m:Nat)(h:Fm w g Kp W R Ds){T:TypeId}{x:Operand}(ho:o.op=.load T x){b off:Nat}{n c size:Nat}{rows:List (List D)}(hd:Ds[m]?=some (.slice (some ⟨b,off,none⟩) n c,.list size rows))(i:Nat){ad:Nat}(hx:a.eval x=.pointer (some ⟨b,ad,none⟩))(had:ad=off+i * size){row:List D}(hi:rows[i]?=some row)
  {d:TypeDesc} (hu:P.underlying T=some d) (hrow:d.isRow=true) {z:List Value} {bytes:Nat} (hT:TyIs P T z bytes) (hz:size=z.length)
  (hK:∀ cs:List Value,Row W (Off w.heap.size R) cs row→K (a.put o.dst (.agg cs.toArray)) W):o.wp P a W K Q:=by
 obtain⟨ti,tv,hti,_,_,hts,_⟩:=hT.info
 have hD:=h.da m _ _ hd
 generalize hv:Value.slice (some ⟨b,off,none⟩) n c=v at hD
 generalize hdd:D.list size rows=dd at hD
 cases hD with
 | int z=>cases hdd
 | bool b=>cases hdd
 | str l=>cases hdd
 | nil p c sz hm=>cases hdd;simp at hi
 | list b' off' c' sz rws f hne hB hlt hc hm hrl hcell his =>
  cases hdd
  simp only [Value.slice.injEq,Option.some.injEq,Addr.mk.injEq]at hv
  obtain⟨⟨rfl,ho',_⟩,_,_⟩:=hv
  have hlen:=hrl i row hi
  let cs:=(List.range row.length).map fun j=>f i j
  have hcs:∀ j d,row[j]?=some d→cs[j]?=some (f i j):=fun j d hj=>by
   have:=(List.getElem?_eq_some_iff.1 hj).1
   simp [cs,this]
  refine wp_load_mid T x ho b ad hx cs d (fun j v hv=>?_) hu hrow (by rw [hti];simp [cs,hts,hlen,hz]) (hK cs ⟨by simp [cs],fun j d hj=>⟨_,hcs j d hj,his i row j d hi hj⟩⟩)
  have hj:j<row.length:=by have:=(List.getElem?_eq_some_iff.1 hv).1;simpa [cs]using this
  have h1:=hcell i row j _ hi (List.getElem?_eq_getElem hj)
  rw [hcs j _ (List.getElem?_eq_getElem hj)]at hv
  simp only [Option.some.injEq]at hv
  rw [had,ho',← hv,← h1,Nat.add_assoc]
end
end Fr
namespace Fr
open Da Tr
section
variable {P:Program} {ops:Array Oper} {rest:List Oper} {Q:Exit→Act→World→Prop} {K:Act→World→Prop} {a:Act} {w W:World} {g:Option Nat} {Kp:World→Prop} {R:List RI} {Ds:List (Value × D)} {o:Oper} {dst:Option Tmp} {ty:TypeId} {pos:String} {after:Array Edge}
theorem Fm.daForm(h:Fm w g Kp W R Ds){m:Nat}{v:Value}{size:Nat}{rows:List (List D)}(hd:Ds[m]?=some (v,.list size rows)) :
  (rows=[]∧∃ p c,v=.slice p 0 c∧c≤maxLen)∨∃ b off c,v=.slice (some ⟨b,off,none⟩) rows.length c∧rows ≠ []∧rows.length≤c∧c≤maxLen:=by
 have hD:=h.da m _ _ hd
 generalize hdd:D.list size rows=dd at hD
 cases hD with
 | int z=>cases hdd
 | bool b=>cases hdd
 | str l=>cases hdd
 | nil p c sz hm=>cases hdd;exact .inl ⟨rfl,_,_,rfl,hm⟩
 | list b' off' c' sz rws f hne hB hlt hc hm hrl hcell his=>cases hdd;exact .inr ⟨_,_,_,rfl,hne,hc,hm⟩
theorem ow_fieldAt(m:Nat)(h:Fm w g Kp W R Ds){T:TypeId}{x:Operand}(ho:o.op=.load T x){b off:Nat}{n c size:Nat}{rows:List (List D)}(hd:Ds[m]?=some (.slice (some ⟨b,off,none⟩) n c,.list size rows))(i j:Nat){ad:Nat}(hx:a.eval x=.pointer (some ⟨b,ad,none⟩))(had:ad=off+i * size+j){row:List D}(hi:rows[i]?=some row){d':D}(hj:row[j]?=some d')
  {d:TypeDesc} (hu:P.underlying T=some d) (hrow:d.isRow=false)
  (hK:∀ v:Value,Fm w g Kp W R ((v,d')::Ds)→K (a.put o.dst v) W):o.wp P a W K Q:=by
 have hD:=h.da m _ _ hd
 generalize hv:Value.slice (some ⟨b,off,none⟩) n c=v at hD
 generalize hdd:D.list size rows=dd at hD
 cases hD with
 | int z=>cases hdd
 | bool b=>cases hdd
 | str l=>cases hdd
 | nil p c sz hm=>cases hdd;simp at hi
 | list b' off' c' sz rws f hne hB hlt hc hm hrl hcell his =>
  cases hdd
  simp only [Value.slice.injEq,Option.some.injEq,Addr.mk.injEq]at hv
  obtain⟨⟨rfl,ho',_⟩,_,_⟩:=hv
  have hc1:=hcell i row j d' hi hj
  have hr:=run_loadVar_cell (P:=P) (W:=W) b ad T (f i j) d (by rw [had,ho',← hc1,Nat.add_assoc]) hu hrow
  unfold Oper.wp execOp
  simp only [ho,hx,Instr.loadAt,Instr.sureAddr,Sem.run_bind,Sem.run_pure,Result.andThen_ok,hr]
  refine hK _ ⟨h.gr,h.hg,h.st,h.kp,h.ap,h.ri,fun k v' d2 hk=>?_⟩
  cases k with
  | zero =>
   simp only [List.getElem?_cons_zero,Option.some.injEq,Prod.mk.injEq]at hk
   obtain⟨rfl,rfl⟩:=hk
   exact his i row j d' hi hj
  | succ k=>exact h.da k v' d2 (by simpa using hk)
theorem wl_fieldAt(m:Nat)(h:Fm w g Kp W R Ds){T:TypeId}{x:Operand}{b off:Nat}{n c size:Nat}{rows:List (List D)}(hd:Ds[m]?=some (.slice (some ⟨b,off,none⟩) n c,.list size rows))(i j:Nat){ad:Nat}(hx:a.eval x=.pointer (some ⟨b,ad,none⟩))(had:ad=off+i * size+j){row:List D}(hi:rows[i]?=some row){d':D}(hj:row[j]?=some d')
  {d:TypeDesc} (hu:P.underlying T=some d) (hrow:d.isRow=false)
  (hK:∀ v:Value,Fm w g Kp W R ((v,d')::Ds)→wpList P ops Q rest (a.put dst v) W):wpList P ops Q ({ dst:=dst,op:=.load T x,type:=ty,pos:=pos,after:=after,guard:=none }::rest) a W:=
 wpList_plain rfl fun K hk=>ow_fieldAt m h rfl hd i j hx had hi hj hu hrow fun v h'=>hk _ _ (hK v h')
theorem Fm.fieldCell(h:Fm w g Kp W R Ds){m:Nat}{b off:Nat}{n c size:Nat}{rows:List (List D)}(hd:Ds[m]?=some (.slice (some ⟨b,off,none⟩) n c,.list size rows))(i j:Nat){row:List D}(hi:rows[i]?=some row){d':D}(hj:row[j]?=some d') :
  ∃ v,W.cell? ⟨b,off+i * size+j,none⟩=some v∧b<W.heap.size∧Fm w g Kp W R ((v,d')::Ds):=by
 have hD:=h.da m _ _ hd
 generalize hv:Value.slice (some ⟨b,off,none⟩) n c=v at hD
 generalize hdd:D.list size rows=dd at hD
 cases hD with
 | int z=>cases hdd
 | bool b=>cases hdd
 | str l=>cases hdd
 | nil p c sz hm=>cases hdd;simp at hi
 | list b' off' c' sz rws f hne hB hlt hc hm hrl hcell his =>
  cases hdd
  simp only [Value.slice.injEq,Option.some.injEq,Addr.mk.injEq]at hv
  obtain⟨⟨rfl,ho',_⟩,_,_⟩:=hv
  refine⟨f i j,by rw [ho',← hcell i row j d' hi hj,Nat.add_assoc],hlt,h.gr,h.hg,h.st,h.kp,h.ap,h.ri,fun k v' d2 hk=>?_⟩
  cases k with
  | zero =>
   simp only [List.getElem?_cons_zero,Option.some.injEq,Prod.mk.injEq]at hk
   obtain⟨rfl,rfl⟩:=hk
   exact his i row j d' hi hj
  | succ k=>exact h.da k v' d2 (by simpa using hk)
theorem ow_loadSub(k:Nat)(h:Fm w g Kp W R Ds){T:TypeId}{x:Operand}(ho:o.op=.load T x){b off:Nat}{cs vs:List Value}(hx:a.eval x=.pointer (some ⟨b,off,none⟩))(hk:R[k]?=some (.blk b cs))(hs:(cs.drop off).take vs.length=vs)
  {d:TypeDesc} (hu:P.underlying T=some d) (hrow:d.isRow=true) {z:List Value} {bytes:Nat} (hT:TyIs P T z bytes) (hz:vs.length=z.length)
  (hK:K (a.put o.dst (.agg vs.toArray)) W):o.wp P a W K Q:=by
 obtain⟨ti,tv,hti,_,_,hts,_⟩:=hT.info
 refine wp_load_mid T x ho b off hx vs d (fun j v hv=>?_) hu hrow (by rw [hti];simp [hts,hz]) hK
 have hj:=(List.getElem?_eq_some_iff.1 hv).1
 rw [← hs,List.getElem?_take,if_pos hj,List.getElem?_drop]at hv
 rw [(h.at k hk).cell]
 simpa using hv
theorem wl_loadSub(k:Nat)(h:Fm w g Kp W R Ds){T:TypeId}{x:Operand}{b off:Nat}{cs vs:List Value}(hx:a.eval x=.pointer (some ⟨b,off,none⟩))(hk:R[k]?=some (.blk b cs))(hs:(cs.drop off).take vs.length=vs)
  {d:TypeDesc} (hu:P.underlying T=some d) (hrow:d.isRow=true) {z:List Value} {bytes:Nat} (hT:TyIs P T z bytes) (hz:vs.length=z.length)
  (hK:wpList P ops Q rest (a.put dst (.agg vs.toArray)) W):wpList P ops Q ({ dst:=dst,op:=.load T x,type:=ty,pos:=pos,after:=after,guard:=none }::rest) a W:=
 wpList_plain rfl fun K hk'=>ow_loadSub k h rfl hx hk hs hu hrow hT hz (hk' _ _ hK)
theorem wl_loadAt(m:Nat)(h:Fm w g Kp W R Ds){T:TypeId}{x:Operand}{b off:Nat}{n c size:Nat}{rows:List (List D)}(hd:Ds[m]?=some (.slice (some ⟨b,off,none⟩) n c,.list size rows))(i:Nat){ad:Nat}(hx:a.eval x=.pointer (some ⟨b,ad,none⟩))(had:ad=off+i * size){row:List D}(hi:rows[i]?=some row)
  {d:TypeDesc} (hu:P.underlying T=some d) (hrow:d.isRow=true) {z:List Value} {bytes:Nat} (hT:TyIs P T z bytes) (hz:size=z.length)
  (hK:∀ cs:List Value,Row W (Off w.heap.size R) cs row→wpList P ops Q rest (a.put dst (.agg cs.toArray)) W):wpList P ops Q ({ dst:=dst,op:=.load T x,type:=ty,pos:=pos,after:=after,guard:=none }::rest) a W:=
 wpList_plain rfl fun K hk'=>ow_loadAt m h rfl hd i hx had hi hu hrow hT hz fun cs hr=>hk' _ _ (hK cs hr)
end
end Fr
namespace Fr
open Da Tr
section
variable {P:Program} {ops:Array Oper} {rest:List Oper} {Q:Exit→Act→World→Prop} {K:Act→World→Prop} {a:Act} {w W:World} {g:Option Nat} {Kp:World→Prop} {R:List RI} {Ds:List (Value × D)} {o:Oper} {dst:Option Tmp} {ty:TypeId} {pos:String} {after:Array Edge}
theorem row_ints{W:World}{Pd:Nat→Prop}:∀ ns:List Int,Row W Pd (ns.map fun n=>Value.int .i64 n) ((ns.map fun n=>[D.int n]).flatten)
 | []=>row_nil _ _
 | n::ns=>row_cons (Is.int n) (row_ints ns)
theorem lit_ints(h:Fm w g Kp W R Ds){T e:TypeId}{bytes:Nat}(hu:P.underlying T=some (.slice e))(hT:TyIs P e [.int .i64 0] bytes)(n:Nat){ps:Array (Nat × Operand)}(ho:o.op=.buildSlice T n ps)(ns:List Int)(hn:ns.length=n)(h0:0<n)(h10:n≤10)
  {parts:List (Nat × Value)} (hp:(ps.toList.map fun p=>(p.1,a.eval p.2))=parts) (hf:Instr.fill (fun i=>some (i * 1,1)) ((Array.range (n * 1)).map ([Value.int .i64 0].toArray[· % [Value.int .i64 0].toArray.size]!)) parts=some (ns.map fun n=>Value.int .i64 n).toArray)
  (hK:∀(b:Nat) (W':World),Fm w g Kp W' R ((.slice (some ⟨b,0,none⟩) n n,.list 1 (ns.map fun n=>[D.int n]))::Ds)→K (a.put o.dst (.slice (some ⟨b,0,none⟩) n n)) W'):o.wp P a W K Q:=by
 have hrun:=run_lit (P:=P) (W:=W) T e n (ps.map fun p=>(p.1,a.eval p.2)) (ns.map fun n=>Value.int .i64 n) [.int .i64 0] bytes hu hT (by simp) (by simp) h0 h10 (by rw [Array.toList_map,hp];exact hf)
 unfold Oper.wp execOp
 simp only [ho,Sem.run_bind,hrun,Result.andThen_ok,Sem.run_pure]
 exact hK _ _ (h.lit (ns.map fun n=>Value.int .i64 n) e n 1 (ns.map fun n=>[D.int n]) (by simp [hn]) (by simp [hn]) (fun r hr=>by simp at hr;obtain⟨_,_,rfl⟩:=hr;rfl) (row_ints ns) (by unfold maxLen;omega))
theorem ow_int2(h:Fm w g Kp W R Ds){T e:TypeId}{bytes:Nat}(hu:P.underlying T=some (.slice e))(hT:TyIs P e [.int .i64 0] bytes){xz0 xz1:Operand}(ho:o.op=.buildSlice T 2 #[(0,xz0),(1,xz1)]){z0 z1:Int}(hz0:evalQ a xz0=some (.int .i64 z0))(hz1:evalQ a xz1=some (.int .i64 z1))
  (hK:∀(b:Nat) (W':World),Fm w g Kp W' R ((.slice (some ⟨b,0,none⟩) 2 2,.list 1 ([z0,z1].map fun n=>[D.int n]))::Ds)→K (a.put o.dst (.slice (some ⟨b,0,none⟩) 2 2)) W'):o.wp P a W K Q:=
 lit_ints h hu hT 2 ho [z0,z1] rfl (by decide) (by decide) (parts:=[(0,.int .i64 z0),(1,.int .i64 z1)]) (by simp [evalQ_eval hz0,evalQ_eval hz1]) (by first|kernel_rfl|(simp [Instr.fill,Value.cells];rfl)|(simp [Instr.fill,Value.cells,Array.range,List.range,List.range.loop])) hK
theorem wl_int2(h:Fm w g Kp W R Ds){T e:TypeId}{bytes:Nat}(hu:P.underlying T=some (.slice e))(hT:TyIs P e [.int .i64 0] bytes){xz0 xz1:Operand}{z0 z1:Int}(hz0:evalQ a xz0=some (.int .i64 z0))(hz1:evalQ a xz1=some (.int .i64 z1))
  (hK:∀(b:Nat) (W':World),Fm w g Kp W' R ((.slice (some ⟨b,0,none⟩) 2 2,.list 1 ([z0,z1].map fun n=>[D.int n]))::Ds)→wpList P ops Q rest (a.put dst (.slice (some ⟨b,0,none⟩) 2 2)) W'):wpList P ops Q ({ dst:=dst,op:=.buildSlice T 2 #[(0,xz0),(1,xz1)],type:=ty,pos:=pos,after:=after,guard:=none }::rest) a W:=
 wpList_plain rfl fun K hk=>ow_int2 h hu hT rfl hz0 hz1 fun b W' h'=>hk _ _ (hK b W' h')
theorem ow_int3(h:Fm w g Kp W R Ds){T e:TypeId}{bytes:Nat}(hu:P.underlying T=some (.slice e))(hT:TyIs P e [.int .i64 0] bytes){xz0 xz1 xz2:Operand}(ho:o.op=.buildSlice T 3 #[(0,xz0),(1,xz1),(2,xz2)]){z0 z1 z2:Int}(hz0:evalQ a xz0=some (.int .i64 z0))(hz1:evalQ a xz1=some (.int .i64 z1))(hz2:evalQ a xz2=some (.int .i64 z2))
  (hK:∀(b:Nat) (W':World),Fm w g Kp W' R ((.slice (some ⟨b,0,none⟩) 3 3,.list 1 ([z0,z1,z2].map fun n=>[D.int n]))::Ds)→K (a.put o.dst (.slice (some ⟨b,0,none⟩) 3 3)) W'):o.wp P a W K Q:=
 lit_ints h hu hT 3 ho [z0,z1,z2] rfl (by decide) (by decide) (parts:=[(0,.int .i64 z0),(1,.int .i64 z1),(2,.int .i64 z2)]) (by simp [evalQ_eval hz0,evalQ_eval hz1,evalQ_eval hz2]) (by first|kernel_rfl|(simp [Instr.fill,Value.cells];rfl)|(simp [Instr.fill,Value.cells,Array.range,List.range,List.range.loop])) hK
theorem wl_int3(h:Fm w g Kp W R Ds){T e:TypeId}{bytes:Nat}(hu:P.underlying T=some (.slice e))(hT:TyIs P e [.int .i64 0] bytes){xz0 xz1 xz2:Operand}{z0 z1 z2:Int}(hz0:evalQ a xz0=some (.int .i64 z0))(hz1:evalQ a xz1=some (.int .i64 z1))(hz2:evalQ a xz2=some (.int .i64 z2))
  (hK:∀(b:Nat) (W':World),Fm w g Kp W' R ((.slice (some ⟨b,0,none⟩) 3 3,.list 1 ([z0,z1,z2].map fun n=>[D.int n]))::Ds)→wpList P ops Q rest (a.put dst (.slice (some ⟨b,0,none⟩) 3 3)) W'):wpList P ops Q ({ dst:=dst,op:=.buildSlice T 3 #[(0,xz0),(1,xz1),(2,xz2)],type:=ty,pos:=pos,after:=after,guard:=none }::rest) a W:=
 wpList_plain rfl fun K hk=>ow_int3 h hu hT rfl hz0 hz1 hz2 fun b W' h'=>hk _ _ (hK b W' h')
theorem ow_int6(h:Fm w g Kp W R Ds){T e:TypeId}{bytes:Nat}(hu:P.underlying T=some (.slice e))(hT:TyIs P e [.int .i64 0] bytes){xz0 xz1 xz2 xz3 xz4 xz5:Operand}(ho:o.op=.buildSlice T 6 #[(0,xz0),(1,xz1),(2,xz2),(3,xz3),(4,xz4),(5,xz5)]){z0 z1 z2 z3 z4 z5:Int}(hz0:evalQ a xz0=some (.int .i64 z0))(hz1:evalQ a xz1=some (.int .i64 z1))(hz2:evalQ a xz2=some (.int .i64 z2))(hz3:evalQ a xz3=some (.int .i64 z3))(hz4:evalQ a xz4=some (.int .i64 z4))(hz5:evalQ a xz5=some (.int .i64 z5))
  (hK:∀(b:Nat) (W':World),Fm w g Kp W' R ((.slice (some ⟨b,0,none⟩) 6 6,.list 1 ([z0,z1,z2,z3,z4,z5].map fun n=>[D.int n]))::Ds)→K (a.put o.dst (.slice (some ⟨b,0,none⟩) 6 6)) W'):o.wp P a W K Q:=
 lit_ints h hu hT 6 ho [z0,z1,z2,z3,z4,z5] rfl (by decide) (by decide) (parts:=[(0,.int .i64 z0),(1,.int .i64 z1),(2,.int .i64 z2),(3,.int .i64 z3),(4,.int .i64 z4),(5,.int .i64 z5)]) (by simp [evalQ_eval hz0,evalQ_eval hz1,evalQ_eval hz2,evalQ_eval hz3,evalQ_eval hz4,evalQ_eval hz5]) (by first|kernel_rfl|(simp [Instr.fill,Value.cells];rfl)|(simp [Instr.fill,Value.cells,Array.range,List.range,List.range.loop])) hK
end
end Fr
theorem pT{p:Prop}(h:p:=by repeat' (first|with_reducible(first|exact HP.out|refine Tr.PS.alloc ?_ _|refine Tr.PS.more ?_ _|refine Tr.PS.drewN ?_ _|refine Tr.PS.drew ?_|refine Tr.PS.set ?_ ?_ _ _)|(first|rfl|(with_reducible assumption)|omega|(simp [more_size]at *;omega)|(simp [more_size];done)|(simp [more_size];omega))|exact HP.out)):p:=h
theorem rT{p:Prop}(h:p:=by repeat' (first|with_reducible(first|exact HR.out|exact Tr.rd_refl _ _|refine Tr.rd_alloc ?_ _|refine Tr.rd_more ?_ _|refine Tr.rd_drewN ?_ _|refine Tr.rd_drew ?_|refine Tr.rd_set ?_ (.inr ?_) _ _)|(first|rfl|(with_reducible assumption)|omega|(simp [more_size]at *;omega)|(simp [more_size];done)|(simp [more_size];omega))|exact HR.out)):p:=h
theorem qT{p:Prop}(h:p:=by repeat' (first|with_reducible(first|exact HQ.out|exact Tr.rd_refl _ _|refine Tr.rd_alloc ?_ _|refine Tr.rd_more ?_ _|refine Tr.rd_drewN ?_ _|refine Tr.rd_drew ?_|refine Tr.rd_set ?_ (.inr ?_) _ _)|(first|rfl|(with_reducible assumption)|omega|(simp [more_size]at *;omega)|(simp [more_size];done)|(simp [more_size];omega))|exact HQ.out)):p:=h
end Go.Proofs.YtlhmkfcbldghfaaGreatDoor
