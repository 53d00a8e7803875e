/- Tokens that are alike but for places are read as trees that are alike but for places;plain. No program in sight. Conditions: none. -/
import Derived.Test.YtlhmkfcbldghfaaGreatDoorTrA
import Derived.Test.YtlhmkfcbldghfaaGreatDoorTokI
namespace Go.Proofs.YtlhmkfcbldghfaaGreatDoor
set_option linter.all false
namespace Tr
inductive Al{α:Type}(P:α→α→Prop):List α→List α→Prop where
 | nil:Al P [] []
 | cons {a b:α} {l k:List α} (h:P a b) (t:Al P l k):Al P (a::l) (b::k)
inductive SE:Ex→Ex→Prop where
 | mk (kd n:Int) (t o:List UInt8) (as bs:List Ex) (p q:Int) (h:Al SE as bs):SE (.mk kd n t o as p) (.mk kd n t o bs q)
inductive Fd(P:Ty→Ty→Prop):(List UInt8 × Bool × Ty × Int)→(List UInt8 × Bool × Ty × Int)→Prop where
 | mk (n:List UInt8) (b:Bool) (t u:Ty) (p q:Int) (h:P t u):Fd P (n,b,t,p) (n,b,u,q)
inductive ST:Ty→Ty→Prop where
 | mk (kd:Int) (m n:List UInt8) (ls ls':List Ex) (el el' bs bs':List Ty) (fs fs' ps ps':List (List UInt8 × Bool × Ty × Int)) (rs rs':List Ty) (p q:Int)
  (h1:Al SE ls ls') (h2:Al ST el el') (h3:Al ST bs bs') (h4:Al (Fd ST) fs fs') (h5:Al (Fd ST) ps ps') (h6:Al ST rs rs'):ST (.mk kd m n ls el bs fs ps rs p) (.mk kd m n ls' el' bs' fs' ps' rs' q)
inductive SS:St→St→Prop where
 | mk (kd:Int) (n:List UInt8) (es es':List Ex) (ls ls':List (List Ex)) (bs bs':List (List St)) (p q:Int)
  (h1:Al SE es es') (h2:Al (Al SE) ls ls') (h3:Al (Al SS) bs bs'):SS (.mk kd n es ls bs p) (.mk kd n es' ls' bs' q)
def TK(a b:Tok):Prop:=a.1=b.1∧a.2.1=b.2.1∧a.2.2.1=b.2.2.1
abbrev AT'(l k:List Tok):Prop:=Al TK l k
def RR{α:Type}(P:α→α→Prop)(x y:R α):Prop:=
 match x,y with
 | .ok a l,.ok b k=>P a b∧AT' l k
 | .no _,.no _=>True
 | _,_=>False
variable {en en':Int}
variable (en en')
structure RC(r s:Rc):Prop where
 ex:∀ l k,AT' l k→RR SE (r.ex l) (s.ex k)
 fa:∀ l k,AT' l k→RR SE (r.fa l) (s.fa k)
 ty:∀ l k,AT' l k→RR ST (r.ty l) (s.ty k)
 op:∀ l k,AT' l k→RR ST (r.op l) (s.op k)
 st:∀ l k,AT' l k→RR (Al SS) (r.st l) (s.st k)
def PF(x y:List (List UInt8 × Bool × Ty × Int) × List Ty):Prop:=Al (Fd ST) x.1 y.1∧Al ST x.2 y.2
end Tr
namespace Tr
variable (en en':Int)
inductive OptR{α:Type}(P:α→α→Prop):Option α→Option α→Prop where
 | none:OptR P none none
 | some {a b:α} (h:P a b):OptR P (some a) (some b)
/-! modules -/
inductive FC:(List UInt8 × Bool × Ex × Int)→(List UInt8 × Bool × Ex × Int)→Prop where
 | mk (n:List UInt8) (b:Bool) (t u:Ex) (p q:Int) (h:SE t u):FC (n,b,t,p) (n,b,u,q)
structure SD(x y:De):Prop where
 consts:Al FC x.consts y.consts
 types:Al (Fd ST) x.types y.types
 vars:Al (Fd ST) x.vars y.vars
structure SPr(x y:Pr):Prop where
 name:x.name=y.name
 out:x.out=y.out
 params:Al (Fd ST) x.params y.params
 result:Al ST x.result y.result
 de:SD x.de y.de
 body:Al SS x.body y.body
 ret:Al SE x.ret y.ret
def SI(x y:List UInt8 × List UInt8 × Int):Prop:=x.1=y.1∧x.2.1=y.2.1
structure SM(x y:Mo):Prop where
 name:x.name=y.name
 imports:Al SI x.imports y.imports
 de:SD x.de y.de
 procs:Al SPr x.procs y.procs
 body:Al SS x.body y.body
end Tr
namespace Tr
/-! alike -/
end Tr
namespace Tr
end Tr
end Go.Proofs.YtlhmkfcbldghfaaGreatDoor
