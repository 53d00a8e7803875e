/- An argument that is an array of two integers,opened. Conditions: its elements are of one cell. -/
import Derived.ProofKit
import Derived.OpenShut
import Derived.ShutString
import Derived.Lib.SmallJoins
import Derived.Test.YthkegfdijohpaaaGreatDoorAppendW
import Derived.Deep.Slices
import Derived.Deep.Fields
import Derived.ChangeSame
namespace Go.Proofs.YthkegfdijohpaaaGreatDoor
set_option linter.all false
open Go.ChangeShapes Go.WideShapes Go.ChangeAt Go.RowKit Go.Joins
namespace Bd
theorem u32_0{n:Int}(h:(Lit.int .u32 n).wf=true):0≤n:=by
 simp [Lit.wf,IntKind.min,IntKind.max,IntKind.signed,IntKind.bits]at h;omega
theorem u32_1{n:Int}(h:(Lit.int .u32 n).wf=true):n<4294967296:=by
 simp [Lit.wf,IntKind.min,IntKind.max,IntKind.signed,IntKind.bits]at h;omega
end Bd
section
variable {H:Type} {enc:TypeId × Value→H} {P:Program} {w:World} {base:Nat} {spare:Nat→Bool} {held:Bool}
theorem open_arr2{r:Reach}{b0:Nat}{t e:TypeId}{v:Value}{d:DataW H}{p:List MemPlace}(hs:P.underlying t=some (.array 2 e))(hone:P.cellsOf e=1)(hC:P.cellsOf t=2)
  (hv:Value.okWide P w r b0 t v) (h:DataW.Trod enc P w base spare held t v d p) :
  ∃(v0 v1:Value) (y0 y1:DataW H × List MemPlace) (n:Nat),v=.agg #[v0,v1]∧d=.agg [y0.1,y1.1]∧p=y0.2++y1.2 ∧
   DataW.trod enc P w base spare held n e [v0]=some y0∧DataW.trod enc P w base spare held n e [v1]=some y1:=by
 simp only [Value.okWide,hs]at hv
 obtain⟨cs,rfl,hsz,_⟩:=hv
 rw [hC]at hsz
 obtain⟨c0,c1,rfl⟩:∃ c0 c1,cs=#[c0,c1]:=by
  refine⟨cs[0],cs[1],?_⟩
  apply Array.ext
  ·simp [hsz]
  ·intro i h1 h2
   have:i=0∨i=1:=by omega
   rcases this with rfl|rfl <;> rfl
 obtain⟨fuel,hf⟩:=h
 obtain⟨xs,m,_,hx,_,hl,hi⟩:=DataW.trod_array hs hf
 match xs,hl,hx,hi with
 | [y0,y1],_,hx,hi =>
  simp only [Prod.mk.injEq]at hx
  have h0:=hi 0 (by omega)
  have h1:=hi 1 (by omega)
  rw [hone]at h0 h1
  exact⟨c0,c1,y0,y1,m,rfl,by simpa using hx.1,by simpa using hx.2,by simpa [Value.cells]using h0,by simpa [Value.cells]using h1⟩
end
open Go.ChangeShapes Go.WideShapes Go.ChangeAt Go.RowKit Go.Joins Go.Deep
namespace Bd
theorem i64_0{n:Int}(h:(Lit.int .i64 n).wf=true) : -9223372036854775808≤n:=by
 simp [Lit.wf,IntKind.min,IntKind.max,IntKind.signed,IntKind.bits]at h;omega
theorem i64_1{n:Int}(h:(Lit.int .i64 n).wf=true):n<9223372036854775808:=by
 simp [Lit.wf,IntKind.min,IntKind.max,IntKind.signed,IntKind.bits]at h;omega
end Bd
section
variable {H:Type} {enc:TypeId × Value→H} {P:Program} {w:World} {base:Nat} {spare:Nat→Bool} {held:Bool}
theorem open_reads{α:Type} [Inhabited α] (cells:α→List Value) (fit:α→Prop) {size:Nat} {r:Reach} {b0:Nat} {t e:TypeId} {v:Value} {d:DataW H} {p:List MemPlace} (ht:P.underlying t=some (.slice e)) (hC:P.cellsOf e=size) (hs:0<size)
  (hel:∀(cs:List Value) (n:Nat) (y:DataW H × List MemPlace),cs.length=size→DataW.trod enc P w base spare held n e cs=some y→∃ x:α,fit x∧cs=cells x)
  (hcl:∀ x,(cells x).length=size) (hv:Value.okWide P w r b0 t v) (h:DataW.Trod enc P w base spare held t v d p) :
  ∃ xs:List α,Reads w v xs.length size (xs.flatMap cells)∧∀ x∈xs,fit x:=by
 obtain⟨a0,l0,c0,rfl⟩:=okWide_slice ht hv
 obtain⟨fuel,hf⟩:=h
 rcases open_slice ht hf with⟨hcs,_⟩|⟨a,len,cap,m,n,D,Pl,hcs,_,hl,hm,hmm,_,hi⟩
 ·simp [Value.cells]at hcs
  obtain⟨rfl,rfl,rfl⟩:=hcs
  exact⟨[],⟨by simp,.inl ⟨rfl,none,0,rfl,by decide⟩⟩,by simp⟩
 ·simp [Value.cells]at hcs
  obtain⟨rfl,rfl,rfl⟩:=hcs
  have hml:l0≤m:=by rw [hmm];split <;> omega
  have each:∀ i,i<l0→∃ x:α,fit x∧∀ j u,(cells x)[j]?=some u→w.cell? (a.add (i * size+j))=some u:=by
   intro i him
   obtain⟨cs',hc,ht'⟩:=hi i (by omega)
   rw [hC]at hc
   obtain⟨_,hcl',hat⟩:=World.cells?_some hc
   obtain⟨x,hx,rfl⟩:=hel cs' n _ hcl' ht'
   refine⟨x,hx,fun j u hu=>?_⟩
   have hj:j<size:=by rw [← hcl x];exact(List.getElem?_eq_some_iff.1 hu).1
   rw [← add_add,hat j hj,hu]
  obtain⟨X,hX⟩:=choose_lt (α:=α) (p:=fun i x=>fit x∧∀ j u,(cells x)[j]?=some u→w.cell? (a.add (i * size+j))=some u) each
  have hlen:∀(k:Nat),(((List.range k).map X).flatMap cells).length=k * size:=by
   intro k
   induction k with
   | zero=>simp
   | succ k ih=>rw [List.range_succ,List.map_append,List.flatMap_append,List.length_append,ih];simp [hcl];rw [Nat.add_mul];omega
  have hget:∀(k j:Nat) (u:Value),(((List.range k).map X).flatMap cells)[j]?=some u→∃ i q,i<k∧j=i * size+q∧(cells (X i))[q]?=some u:=by
   intro k
   induction k with
   | zero=>intro j u hu;simp at hu
   | succ k ih =>
    intro j u hu
    rw [List.range_succ,List.map_append,List.flatMap_append]at hu
    by_cases hj:j<k * size
    ·rw [List.getElem?_append_left (by rw [hlen];exact hj)]at hu
     obtain⟨i,q,h1,h2,h3⟩:=ih j u hu
     exact⟨i,q,by omega,h2,h3⟩
    ·rw [List.getElem?_append_right (by rw [hlen];omega),hlen]at hu
     exact⟨k,j - k * size,by omega,by omega,by simpa using hu⟩
  refine⟨(List.range l0).map X,⟨?_,?_⟩,fun x hx=>?_⟩
  ·rw [hlen];simp
  ·by_cases h0:l0=0
   ·exact .inl ⟨by simp [h0],some a,c0,by rw [h0],hm⟩
   ·right
    obtain⟨u0,hu0⟩:∃ u,(cells (X 0))[0]?=some u:=⟨_,List.getElem?_eq_getElem (by rw [hcl];exact hs)⟩
    have hc0:=(hX 0 (by omega)).2 0 u0 hu0
    simp only [Nat.zero_mul,Nat.add_zero,Addr.add,if_true]at hc0
    obtain⟨ab,ao,asp⟩:=a
    have hsp:asp=none:=by
     cases asp with
     | none=>rfl
     | some s =>
      unfold World.cell? at hc0
      revert hc0
      cases w.heap[ab]? with
      | none=>simp
      | some o=>cases o <;> simp
    subst hsp
    have hbl:ab<w.heap.size:=by
     unfold World.cell? at hc0
     cases hb:w.heap[ab]? with
     | none=>simp [hb]at hc0
     | some o=>exact(Array.getElem?_eq_some_iff.1 hb).1
    refine⟨ab,ao,c0,by simp,by simpa using hl,hm,hbl,fun j u hu=>?_⟩
    obtain⟨i,q,h1,rfl,h3⟩:=hget l0 j u hu
    have:=(hX i h1).2 q u h3
    unfold Addr.add at this
    split at this
    ·rename_i h;rw [h];exact this
    ·exact this
  ·obtain⟨i,hi',rfl⟩:=List.mem_map.1 hx
   exact(hX i (List.mem_range.1 hi')).1
theorem trod_struct3{t:TypeId}{f0 f1 f2:Field}{fuel:Nat}{c0 c1 c2:Value}{x:DataW H × List MemPlace}(hs:P.underlying t=some (.struct #[f0,f1,f2]))(hone:oneCellFields P #[f0,f1,f2]=true)(h:DataW.trod enc P w base spare held fuel t [c0,c1,c2]=some x) :
  ∃(n:Nat) (y0 y1 y2:DataW H × List MemPlace),DataW.trod enc P w base spare held n f0.type [c0]=some y0∧DataW.trod enc P w base spare held n f1.type [c1]=some y1∧DataW.trod enc P w base spare held n f2.type [c2]=some y2:=by
 obtain⟨ys,n',-,-,-,hyl,hf⟩:=DataW.trod_struct hs h
 obtain⟨o0,k0⟩:=hone_of hone 0 _ rfl
 have h0:DataW.trod enc P w base spare held n' f0.type [c0]=ys[0]?:=by have h:=hf 0 _ rfl;rw [o0,k0]at h;exact h
 obtain⟨y0,e0⟩:∃ y,ys[0]?=some y:=⟨_,List.getElem?_eq_getElem (by rw [hyl];simp)⟩
 obtain⟨o1,k1⟩:=hone_of hone 1 _ rfl
 have h1:DataW.trod enc P w base spare held n' f1.type [c1]=ys[1]?:=by have h:=hf 1 _ rfl;rw [o1,k1]at h;exact h
 obtain⟨y1,e1⟩:∃ y,ys[1]?=some y:=⟨_,List.getElem?_eq_getElem (by rw [hyl];simp)⟩
 obtain⟨o2,k2⟩:=hone_of hone 2 _ rfl
 have h2:DataW.trod enc P w base spare held n' f2.type [c2]=ys[2]?:=by have h:=hf 2 _ rfl;rw [o2,k2]at h;exact h
 obtain⟨y2,e2⟩:∃ y,ys[2]?=some y:=⟨_,List.getElem?_eq_getElem (by rw [hyl];simp)⟩
 exact⟨n',y0,y1,y2,h0.trans e0,h1.trans e1,h2.trans e2⟩
theorem trod_struct4{t:TypeId}{f0 f1 f2 f3:Field}{fuel:Nat}{c0 c1 c2 c3:Value}{x:DataW H × List MemPlace}(hs:P.underlying t=some (.struct #[f0,f1,f2,f3]))(hone:oneCellFields P #[f0,f1,f2,f3]=true)(h:DataW.trod enc P w base spare held fuel t [c0,c1,c2,c3]=some x) :
  ∃(n:Nat) (y0 y1 y2 y3:DataW H × List MemPlace),DataW.trod enc P w base spare held n f0.type [c0]=some y0∧DataW.trod enc P w base spare held n f1.type [c1]=some y1∧DataW.trod enc P w base spare held n f2.type [c2]=some y2∧DataW.trod enc P w base spare held n f3.type [c3]=some y3:=by
 obtain⟨ys,n',-,-,-,hyl,hf⟩:=DataW.trod_struct hs h
 obtain⟨o0,k0⟩:=hone_of hone 0 _ rfl
 have h0:DataW.trod enc P w base spare held n' f0.type [c0]=ys[0]?:=by have h:=hf 0 _ rfl;rw [o0,k0]at h;exact h
 obtain⟨y0,e0⟩:∃ y,ys[0]?=some y:=⟨_,List.getElem?_eq_getElem (by rw [hyl];simp)⟩
 obtain⟨o1,k1⟩:=hone_of hone 1 _ rfl
 have h1:DataW.trod enc P w base spare held n' f1.type [c1]=ys[1]?:=by have h:=hf 1 _ rfl;rw [o1,k1]at h;exact h
 obtain⟨y1,e1⟩:∃ y,ys[1]?=some y:=⟨_,List.getElem?_eq_getElem (by rw [hyl];simp)⟩
 obtain⟨o2,k2⟩:=hone_of hone 2 _ rfl
 have h2:DataW.trod enc P w base spare held n' f2.type [c2]=ys[2]?:=by have h:=hf 2 _ rfl;rw [o2,k2]at h;exact h
 obtain⟨y2,e2⟩:∃ y,ys[2]?=some y:=⟨_,List.getElem?_eq_getElem (by rw [hyl];simp)⟩
 obtain⟨o3,k3⟩:=hone_of hone 3 _ rfl
 have h3:DataW.trod enc P w base spare held n' f3.type [c3]=ys[3]?:=by have h:=hf 3 _ rfl;rw [o3,k3]at h;exact h
 obtain⟨y3,e3⟩:∃ y,ys[3]?=some y:=⟨_,List.getElem?_eq_getElem (by rw [hyl];simp)⟩
 exact⟨n',y0,y1,y2,y3,h0.trans e0,h1.trans e1,h2.trans e2,h3.trans e3⟩
end
end Go.Proofs.YthkegfdijohpaaaGreatDoor
