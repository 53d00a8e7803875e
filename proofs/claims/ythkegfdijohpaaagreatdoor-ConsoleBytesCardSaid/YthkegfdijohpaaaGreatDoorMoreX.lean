/- A world with more blocks behind its own: what a call leaves that only makes memory. Its laws for the walk,and the law of a region that draws its order and whose calls make memory. Conditions: a cell of the old world lies below its size. -/
import Derived.WalkKit
import Derived.BigQuiet
import Derived.Deep.QuietTactic
import Derived.Handy
import Derived.Lib.Hide
namespace Go.Proofs.YthkegfdijohpaaaGreatDoor
set_option linter.all false
/-! short names of four laws that the walks reckon with -/
theorem zA{α:Type _}{i:Nat}{a:α}{l:List α}:l.toArray.setIfInBounds i a=(l.set i a).toArray:=by rw [List.setIfInBounds_toArray]
theorem z0{α:Type _}{x a:α}{xs:List α}:(x::xs).set 0 a=a::xs:=rfl
theorem z1{α:Type _}{n:Nat}{x a:α}{xs:List α}:(x::xs).set (n+1) a=x::xs.set n a:=rfl
theorem z2{α:Type _}{p:α→Prop}{a:α}{l:List α}(h:p a)(t:∀ x∈l,p x):∀ x∈a::l,p x:=List.forall_mem_cons.2 ⟨h,t⟩
theorem z3{α:Type _}(p:α→Prop):∀ x∈([]:List α),p x:=fun _ h=>by cases h
theorem z4{n m:Nat}(h:Nat.ble n m=true):n≤m:=Nat.le_of_ble_eq_true h
theorem zF:(false=true)=False:=Bool.false_eq_true
open Go.RowKit
structure Came where
 o:Array Obj
 d:Nat
instance:Inhabited Came:=⟨⟨#[],0⟩⟩
def more(w:World)(g:Came):World:={ w with heap:=w.heap++g.o,drawn:=g.d }
section
variable (w:World) (g:Came)
@[go_sem] theorem more_size:(more w g).heap.size=w.heap.size+g.o.size:=by simp [more]
theorem more_block(k:Nat)(h:k<w.heap.size):(more w g).heap[k]?=w.heap[k]?:=by
 simp only [more]
 rw [Array.getElem?_append_left h]
@[go_sem] theorem more_cell (b i:Nat) (h:b<w.heap.size):(more w g).cell? ⟨b,i,none⟩=w.cell? ⟨b,i,none⟩:=World.cell?_of_block (w:=w) (more_block w g b h)
@[go_sem] theorem more_frozen (b i:Nat) (h:b<w.heap.size):(more w g).frozen? ⟨b,i,none⟩=w.frozen? ⟨b,i,none⟩:=World.frozen?_of_block (w:=w) (more_block w g b h)
@[go_sem] theorem more_more (g':Came):more (more w g) g'=more w ⟨g.o++g'.o,g'.d⟩:=by simp [more,Array.append_assoc]
@[go_sem] theorem more_drew:(more w g).drew=more w ⟨g.o,g.d+1⟩:=rfl
@[go_sem] theorem more_drewN (n:Nat):(more w g).drewN n=more w ⟨g.o,g.d+n⟩:=rfl
@[go_sem] theorem drewN_more (n:Nat):more (w.drewN n) g=more w g:=rfl
@[go_sem] theorem drew_more:more w.drew g=more w g:=rfl
@[go_sem] theorem more_setCell (b i:Nat) (v:Value) (h:b<w.heap.size):(more w g).setCell ⟨b,i,none⟩ v=more (w.setCell ⟨b,i,none⟩ v) g:=by
 simp only [World.setCell,more]
 congr 1
 apply Array.ext_getElem?
 intro j
 rw [Array.getElem?_modify]
 by_cases hj:j<w.heap.size
 ·rw [Array.getElem?_append_left hj,Array.getElem?_append_left (by simpa using hj),Array.getElem?_modify]
 ·rw [Array.getElem?_append_right (by omega),Array.getElem?_append_right (by simp;omega),if_neg (by omega)]
  simp
theorem more_of_below{w w':World}(h:Below w.heap.size w w'):∃ g,w'=more w g:=by
 refine⟨⟨w'.heap.extract w.heap.size w'.heap.size,w'.drawn⟩,?_⟩
 obtain⟨h1,h2,h3,h4,h5⟩:=h
 have e:w'.heap=w.heap++w'.heap.extract w.heap.size w'.heap.size:=by
  apply Array.ext_getElem?
  intro i
  by_cases hi:i<w.heap.size
  ·rw [h5 i hi,Array.getElem?_append_left hi]
  ·rw [Array.getElem?_append_right (by omega),Array.getElem?_extract]
   split
   ·congr 1;omega
   ·rw [Array.getElem?_eq_none];omega
 cases w';cases w
 simp only [more,World.mk.injEq]at *
 exact⟨e,h2,trivial,h1,h3⟩
theorem below_more{B:Nat}{a w:World}(h:Below B a w)(hB:B≤w.heap.size)(g:Came):Below B a (more w g):=
 h.trans ⟨rfl,rfl,rfl,by simp [more],fun k hk=>more_block w g k (by omega)⟩
theorem below_drewN{B:Nat}{a w:World}(h:Below B a w)(n:Nat):Below B a (w.drewN n):=⟨h.os,h.tape,h.output,h.size,h.block⟩
theorem more_refl(w:World):∃ g,w=more w g:=more_of_below (Below.refl _ _)
end
theorem mo{P:Program}{f:FuncId}{args:Array Value}{w:World}{v:Value}(h:Calls P f args w fun e w'=>e=.returned v∧Below w.heap.size w w') :
  Calls P f args w fun e w'=>e=.returned v∧∃ g,w'=more w g:=h.mono fun _ _ ⟨he,hb⟩=>⟨he,more_of_below hb⟩
theorem mo_same{P:Program}{f:FuncId}{args:Array Value}{w:World}{v:Value}(h:Calls P f args w fun e w'=>e=.returned v∧w=w') :
  Calls P f args w fun e w'=>e=.returned v∧∃ g,w'=more w g:=h.mono fun _ _ ⟨he,hb⟩=>⟨he,hb ▸ more_refl w⟩
theorem mo_drew{P:Program}{f:FuncId}{args:Array Value}{w:World}{v:Value}(h:Calls P f args w fun e w'=>e=.returned v∧∃ n,w'=w.drewN n) :
  Calls P f args w fun e w'=>e=.returned v∧∃ g,w'=more w g:=h.mono fun _ _ ⟨he,n,hb⟩=>⟨he,hb ▸ more_of_below (below_drewN (Below.refl _ _) n)⟩
theorem wp_region_more{P:Program}{id:Nat}{Q:Exit→Act→World→Prop}{a:Act}{w:World}{l:List Oper}(hm:P.follows .mixedOrders=true)(hB:Region.lexB .any l.toArray=true)
  (h:wpQuiet P l.toArray (fun w'=>∃ g,w'=more w g) (fun a'=>∀ w',(∃ g,w'=more w g)→Q .normal a' w') l a):(Code.region id l.toArray true).wp P Q a w:=
 wp_region_quiet (C:=fun w'=>∃ g,w'=more w g) hm hB ⟨⟨#[],w.drawn+1⟩,by simp [more]⟩ (by simpa using h)
theorem mo_in{P:Program}{f:FuncId}{args:Array Value}{w:World}{g:Came}{v:Value}
  (h:Calls P f args (more w g) fun e w'=>e=.returned v∧∃ g',w'=more (more w g) g'):Calls P f args (more w g) fun e w''=>e=.returned v∧∃ g',w''=more w g':=
 h.mono fun _ _ ⟨he,g',hw⟩=>⟨he,⟨g.o++g'.o,g'.d⟩,by rw [hw,more_more]⟩
@[go_sem] theorem lt_add1 (a b c:Nat) (h:a<b):(a<b+c)=True:=by simp;omega
@[go_sem] theorem lt_add2 (a b c d:Nat) (h:a<b):(a<b+c+d)=True:=by simp;omega
@[go_sem] theorem lt_add3 (a b c d e:Nat) (h:a<b):(a<b+c+d+e)=True:=by simp;omega
@[go_sem] theorem lt_add4 (a b c d e f:Nat) (h:a<b):(a<b+c+d+e+f)=True:=by simp;omega
@[go_sem] theorem lt_add5 (a b c0 c1 c2 c3 c4:Nat) (h:a<b):(a<b+c0+c1+c2+c3+c4)=True:=by simp;omega
@[go_sem] theorem lt_add6 (a b c0 c1 c2 c3 c4 c5:Nat) (h:a<b):(a<b+c0+c1+c2+c3+c4+c5)=True:=by simp;omega
@[go_sem] theorem lt_add7 (a b c0 c1 c2 c3 c4 c5 c6:Nat) (h:a<b):(a<b+c0+c1+c2+c3+c4+c5+c6)=True:=by simp;omega
@[go_sem] theorem lt_add8 (a b c0 c1 c2 c3 c4 c5 c6 c7:Nat) (h:a<b):(a<b+c0+c1+c2+c3+c4+c5+c6+c7)=True:=by simp;omega
@[go_sem] theorem lt_add9 (a b c0 c1 c2 c3 c4 c5 c6 c7 c8:Nat) (h:a<b):(a<b+c0+c1+c2+c3+c4+c5+c6+c7+c8)=True:=by simp;omega
@[go_sem] theorem lt_add10 (a b c0 c1 c2 c3 c4 c5 c6 c7 c8 c9:Nat) (h:a<b):(a<b+c0+c1+c2+c3+c4+c5+c6+c7+c8+c9)=True:=by simp;omega
@[go_sem] theorem lt_add11 (a b c0 c1 c2 c3 c4 c5 c6 c7 c8 c9 c10:Nat) (h:a<b):(a<b+c0+c1+c2+c3+c4+c5+c6+c7+c8+c9+c10)=True:=by simp;omega
@[go_sem] theorem lt_add12 (a b c0 c1 c2 c3 c4 c5 c6 c7 c8 c9 c10 c11:Nat) (h:a<b):(a<b+c0+c1+c2+c3+c4+c5+c6+c7+c8+c9+c10+c11)=True:=by simp;omega
@[go_sem] theorem lt_add13 (a b c0 c1 c2 c3 c4 c5 c6 c7 c8 c9 c10 c11 c12:Nat) (h:a<b):(a<b+c0+c1+c2+c3+c4+c5+c6+c7+c8+c9+c10+c11+c12)=True:=by simp;omega
@[go_sem] theorem lt_add14 (a b c0 c1 c2 c3 c4 c5 c6 c7 c8 c9 c10 c11 c12 c13:Nat) (h:a<b):(a<b+c0+c1+c2+c3+c4+c5+c6+c7+c8+c9+c10+c11+c12+c13)=True:=by simp;omega
theorem bT{p:Prop}(h:p:=by repeat' (first|with_reducible(first|exact Below.refl _ _|assumption|refine below_more ?_ ?_ _|refine below_drewN ?_ _|refine Below.drew ?_|refine Below.alloc ?_ ?_ _|refine Below.setCell ?_ ?_ _)|go_size|(simp [more_size];done)|(simp [more_size];omega))):p:=h
theorem oT{p:Prop}(h:p:=by repeat' (first|exact z3 _|refine z2 ?_ ?_|rfl|(refine HF.out.oneM ?_;simp;done))):p:=h
end Go.Proofs.YthkegfdijohpaaaGreatDoor
