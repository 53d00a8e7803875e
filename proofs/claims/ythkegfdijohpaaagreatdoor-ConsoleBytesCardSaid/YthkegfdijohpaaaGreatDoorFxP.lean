/- Closed facts on a program,parted so that each is small: what a function leads to,by bits;what starts no goroutine;what is laid out. No program in sight. Conditions: none. -/
import Derived.JoinedOf
import GoSem.ClaimGoes
namespace Go.Proofs.YthkegfdijohpaaaGreatDoor
set_option linter.all false
open Go
namespace Fx
def tabAt(tab:List (List Nat))(f:Nat):List Nat:=(tab[f]?).getD []
def viaM(tab:List (List Nat)):Nat→List Nat→Nat→List Nat→List Nat
 | 0,_,_,seen=>seen.reverse
 | _+1,[],_,seen=>seen.reverse
 | n+1,f::todo,m,seen=>bif m.testBit f then viaM tab n todo m seen else viaM tab n (tabAt tab f++todo) (m ||| 2 ^ f) (f::seen)
theorem via_eq(P:Program)(tab:List (List Nat))(h:P.funcs.toList.map P.leadsTo=tab):∀(n:Nat) (todo:List Nat) (m:Nat) (seen:List Nat),(∀ f,m.testBit f=seen.contains f)→viaM tab n todo m seen=P.closureVia n todo seen:=by
 have hl:∀ f,(P.funcs[f]?).elim [] P.leadsTo=tabAt tab f:=by
  intro f
  unfold tabAt
  rw [← h,List.getElem?_map,Array.getElem?_toList]
  cases P.funcs[f]? <;> rfl
 intro n
 induction n with
 | zero=>intro todo m seen _;unfold viaM Program.closureVia;rfl
 | succ n ih =>
  intro todo m seen hm
  cases todo with
  | nil=>unfold viaM Program.closureVia;rfl
  | cons f todo =>
   unfold viaM Program.closureVia
   rw [hm f,hl f]
   cases hs:seen.contains f
   ·simp only [cond_false,Bool.false_eq_true,if_false]
    refine ih _ _ _ fun g=>?_
    rw [Nat.testBit_or,Nat.testBit_two_pow,hm g,List.contains_cons,Bool.or_comm]
    congr 1
    by_cases hg:f=g
    ·subst hg;simp
    ·rw [decide_eq_false hg];symm;rw [beq_eq_false_iff_ne];exact fun e=>hg e.symm
   ·simp only [cond_true,if_true]
    exact ih _ _ _ hm
theorem closure_of(P:Program)(tab:List (List Nat))(h:P.funcs.toList.map P.leadsTo=tab)(F:Nat)(C:List Nat)(hc:viaM tab (1+(tab.map fun l=>l.length+1).sum) [F] 0 []=C):P.closure F=C:=by
 unfold Program.closure
 rw [← via_eq P tab h _ _ 0 [] (by simp),show(P.funcs.toList.map fun g=>(P.leadsTo g).length+1)=tab.map (fun l=>l.length+1)from by rw [← h,List.map_map];rfl]
 exact hc
theorem goes_no(P:Program)(F:Nat)(h:P.funcs.toList.any Func.goes=false):P.goes F=false:=by
 have hg:∀ g:Nat,(P.funcs[g]?).any Func.goes=false:=by
  intro g
  cases hx:P.funcs[g]? with
  | none=>rfl
  | some fn =>
   have hm:fn∈P.funcs.toList:=by rw [← Array.getElem?_toList]at hx;exact List.mem_of_getElem? hx
   have:=List.any_eq_false.1 h fn hm
   simpa using this
 have h2:P.funcs.any Func.goes=false:=by rw [← Array.any_toList];exact h
 unfold Program.goes
 rw [h2]
 simp [hg]
theorem all_chunks{α:Type}(p:α→Bool)(c:Nat):∀(m:Nat) (l:List α),l.length≤c * m→(∀ k,k<m→((l.drop (c * k)).take c).all p=true)→l.all p=true:=by
 intro m
 induction m with
 | zero=>intro l hl _;have:l=[]:=List.eq_nil_of_length_eq_zero (by omega);subst this;rfl
 | succ m ih =>
  intro l hl h
  rw [← List.take_append_drop c l,List.all_append,Bool.and_eq_true]
  refine⟨by simpa using h 0 (by omega),ih _ (by rw [List.length_drop,Nat.mul_succ]at *;omega) fun k hk=>?_⟩
  have:=h (k+1) (by omega)
  rwa [List.drop_drop,show c+c * k=c * (k+1)by rw [Nat.mul_succ,Nat.add_comm]]
theorem laidOut_of(P:Program)(n:Nat)(hn:P.types.size=n)(rows:(List.range n).all (rowFine P)=true)(h2:P.globals.toList.all (fun g=>decide (g.type<n))=true)
  (h3:P.funcs.toList.all (fun f=>f.params.all fun t=>decide (t<n))=true):laidOutB P=true:=by
 subst hn
 rw [Array.all_toList]at h2 h3
 unfold laidOutB
 rw [rows,h2,h3]
 rfl
theorem and2{a b:Bool}(ha:a=true)(hb:b=true):(a && b)=true:=by rw [ha,hb];rfl
theorem beq_of{α:Type} [BEq α] [LawfulBEq α] {a b:α} (h:b=a):(a == b)=true:=by rw [h];exact beq_self_eq_true a
end Fx
end Go.Proofs.YthkegfdijohpaaaGreatDoor
