/- Modules as trees,and the reading of tokens as a tree;plain. No program in sight. Conditions: none. -/
import Derived.Test.YtlhmkfcbldghfaaGreatDoorTkA
namespace Go.Proofs.YtlhmkfcbldghfaaGreatDoor
set_option linter.all false
namespace Tr
abbrev Tok:=Int × List UInt8 × Int × Int
inductive Ex where
 | mk (kind n:Int) (text op:List UInt8) (args:List Ex) (pos:Int)
inductive Ty where
 | mk (kind:Int) (mod name:List UInt8) (lens:List Ex) (elem base:List Ty) (fields params:List (List UInt8 × Bool × Ty × Int)) (result:List Ty) (pos:Int)
inductive St where
 | mk (kind:Int) (name:List UInt8) (exprs:List Ex) (labels:List (List Ex)) (blocks:List (List St)) (pos:Int)
structure De where
 consts:List (List UInt8 × Bool × Ex × Int)
 types:List (List UInt8 × Bool × Ty × Int)
 vars:List (List UInt8 × Bool × Ty × Int)
structure Pr where
 name:List UInt8
 out:Bool
 params:List (List UInt8 × Bool × Ty × Int)
 result:List Ty
 de:De
 body:List St
 ret:List Ex
 pos:Int
structure Mo where
 name:List UInt8
 imports:List (List UInt8 × List UInt8 × Int)
 de:De
 procs:List Pr
 body:List St
 pos:Int
inductive R(α:Type) where
 | ok (a:α) (l:List Tok)
 | no (at_:Int)
def R.bind{α β:Type}(r:R α)(f:α→List Tok→R β):R β:=match r with | .ok a l=>f a l | .no p => .no p
section
variable (en:Int)
def peek(l:List Tok):Tok:=match l with|t::_=>t|[]=>(0,[],0,en)
def posOf(l:List Tok):Int:=(peek en l).2.2.2
def isS(w:List UInt8)(l:List Tok):Bool:=match l with|t::_=>(t.1 == 2 || t.1 == 6) && t.2.1 == w|[]=>false
def took(w:List UInt8)(l:List Tok):Bool × List Tok:=if isS w l then(true,l.tail)else(false,l)
def skip(w:List UInt8)(l:List Tok):R Unit:=if isS w l then .ok () l.tail else .no (posOf en l)
def isN(l:List Tok):Bool:=match l with|t::_=>t.1 == 1|[]=>false
def nameT(l:List Tok):R Tok:=if isN l then .ok (peek en l) l.tail else .no (posOf en l)
def opT(ws:List (List UInt8))(l:List Tok):Option (List UInt8):=match l with|t::_=>if (t.1 == 2 || t.1 == 6) && ws.contains t.2.1 then some t.2.1 else none|[]=>none
def kNIL:List UInt8:=[78,73,76]
def kTRUE:List UInt8:=[84,82,85,69]
def kFALSE:List UInt8:=[70,65,76,83,69]
def startT(l:List Tok):Int:=
 match l with
 | []=>0
 | t::_ =>
  if t.1=1 then 1
  else if t.1=3∨t.1=4∨t.1=5 then 2
  else if t.1=2 then(if t.2.1=kNIL∨t.2.1=kTRUE∨t.2.1=kFALSE then 2 else 0)
  else if t.1=6 then(if t.2.1=[123]∨t.2.1=[40]∨t.2.1=[126]then 2 else if t.2.1=[43]∨t.2.1=[45]then 3 else 0)
  else 0
def manyC{α:Type}(w:List UInt8)(F:List Tok→R α):Nat→List Tok→R (List α)
 | 0,_ => .no 0
 | n+1,l=>(F l).bind fun a l1=>if isS w l1 then(manyC w F n l1.tail).bind fun as l2 => .ok (a::as) l2 else .ok [a] l1
def whileN{α:Type}(F:List Tok→R α):Nat→List Tok→R (List α)
 | 0,_ => .no 0
 | n+1,l=>if isN l then(F l).bind fun a l1=>(whileN F n l1).bind fun as l2 => .ok (a::as) l2 else .ok [] l
def bin(o:List UInt8)(a b:Ex):Ex:=match a with | .mk _ _ _ _ _ p => .mk 14 0 [] o [a,b] p
def exPos:Ex→Int | .mk _ _ _ _ _ p=>p
structure Rc where
 ex:List Tok→R Ex
 fa:List Tok→R Ex
 ty:List Tok→R Ty
 op:List Tok→R Ty
 st:List Tok→R (List St)
def comma:List UInt8:=[44]
def labelsP(E:List Tok→R Ex)(l:List Tok):R (List Ex):=
 manyC comma (fun l=>(E l).bind fun a l1=>if isS [46,46] l1 then(E l1.tail).bind fun c l2 => .ok (.mk 7 0 [] [] [a,c] (exPos a)) l2 else .ok a l1) (l.length+1) l
def wordedP(r:Rc)(w:List UInt8)(n p:Int)(l:List Tok):R Ex:=
 if w=kNIL then .ok (.mk 4 n [] [] [] p) l
 else if w=kTRUE then .ok (.mk 5 1 [] [] [] p) l
 else if w=kFALSE then .ok (.mk 5 n [] [] [] p) l
 else if w=[123]then(if isS [125] l then .ok (.mk 6 n [] [] [] p) l.tail else(labelsP r.ex l).bind fun as l1=>(skip en [125] l1).bind fun _ l2 => .ok (.mk 6 n [] [] as p) l2)
 else if w=[40]then(r.ex l).bind fun e l1=>(skip en [41] l1).bind fun _ l2 => .ok e l2
 else if w=[126]then(r.fa l).bind fun a l1 => .ok (.mk 13 n [] [126] [a] p) l1
 else .ok (.mk 0 n [] [] [] p) l
def designL(r:Rc):Nat→Ex→List Tok→R Ex
 | 0,_,_ => .no 0
 | n+1,e,l =>
  if isS [46] l then(nameT en l.tail).bind fun t l1=>designL r n (.mk 9 0 t.2.1 [] [e] (exPos e)) l1
  else if isS [91] l then(manyC comma r.ex (l.length+1) l.tail).bind fun xs l1=>(skip en [93] l1).bind fun _ l2=>designL r n (xs.foldl (fun e x => .mk 10 0 [] [] [e,x] (exPos e)) e) l2
  else if isS [94] l then designL r n (.mk 11 0 [] [] [e] (exPos e)) l.tail
  else if isS [40] l then
   (if isS [41] l.tail then .ok [] l.tail else manyC comma r.ex (l.length+1) l.tail).bind fun xs l1=>(skip en [41] l1).bind fun _ l2=>designL r n (.mk 12 0 [] [] (e::xs) (exPos e)) l2
  else .ok e l
def designP(r:Rc)(l:List Tok):R Ex:=(nameT en l).bind fun t l1=>designL en r (l.length+1) (.mk 8 0 t.2.1 [] [] t.2.2.2) l1
def factorP(r:Rc)(l:List Tok):R Ex:=
 if startT l=1 then designP en r l
 else if startT l=2 then
  let t:=peek en l
  if t.1=3 then .ok (.mk 1 t.2.2.1 [] [] [] t.2.2.2) l.tail
  else if t.1=4 then .ok (.mk 2 t.2.2.1 [] [] [] t.2.2.2) l.tail
  else if t.1=5 then .ok (.mk 3 t.2.2.1 t.2.1 [] [] t.2.2.2) l.tail
  else wordedP en r t.2.1 t.2.2.1 t.2.2.2 l.tail
 else .no (posOf en l)
def binL(os:List (List UInt8))(F:List Tok→R Ex):Nat→Ex→List Tok→R Ex
 | 0,_,_ => .no 0
 | n+1,a,l=>match opT os l with|some o=>(F l.tail).bind fun c l1=>binL os F n (bin o a c) l1|none => .ok a l
def mulOps:List (List UInt8):=[[42],[47],[68,73,86],[77,79,68],[38]]
def addOps:List (List UInt8):=[[43],[45],[79,82]]
def relOps:List (List UInt8):=[[61],[35],[60],[60,61],[62],[62,61],[73,78],[73,83]]
def termP(r:Rc)(l:List Tok):R Ex:=(factorP en r l).bind fun a l1=>binL mulOps (factorP en r) (l.length+1) a l1
def simpleP(r:Rc)(l:List Tok):R Ex:=
 match opT [[43],[45]] l with
 | some o=>(termP en r l.tail).bind fun a l1=>binL addOps (termP en r) (l.length+1) (.mk 13 0 [] o [a] (posOf en l)) l1
 | none=>(termP en r l).bind fun a l1=>binL addOps (termP en r) (l.length+1) a l1
def exprP(r:Rc)(l:List Tok):R Ex:=
 (simpleP en r l).bind fun a l1=>match opT relOps l1 with|some o=>(simpleP en r l1.tail).bind fun c l2 => .ok (bin o a c) l2|none => .ok a l1
/-! types -/
def qualP(l:List Tok):R Ty:=(nameT en l).bind fun t l1=>if isS [46] l1 then(nameT en l1.tail).bind fun u l2 => .ok (.mk 1 t.2.1 u.2.1 [] [] [] [] [] [] t.2.2.2) l2 else .ok (.mk 1 [] t.2.1 [] [] [] [] [] [] t.2.2.2) l1
def openP(r:Rc)(l:List Tok):R Ty:=if isS [65,82,82,65,89] l then(skip en [79,70] l.tail).bind fun _ l1=>(r.op l1).bind fun e l2 => .ok (.mk 6 [] [] [] [e] [] [] [] [] (posOf en l)) l2 else qualP en l
def sectionP(r:Rc)(l:List Tok):R (List (List UInt8 × Bool × Ty × Int)):=
 let v:=took [86,65,82] l
 (manyC comma (nameT en) (l.length+1) v.2).bind fun ts l1=>(skip en [58] l1).bind fun _ l2=>(openP en r l2).bind fun t l3 => .ok (ts.map fun x=>(x.2.1,v.1,t,x.2.2.2)) l3
def formalsP(r:Rc)(l:List Tok):R (List (List UInt8 × Bool × Ty × Int) × List Ty):=
 (skip en [40] l).bind fun _ l1=>(if isS [41] l1 then .ok [] l1 else manyC [59] (sectionP en r) (l.length+1) l1).bind fun ps l2=>(skip en [41] l2).bind fun _ l3 =>
  if isS [58] l3 then(qualP en l3.tail).bind fun q l4 => .ok (ps.flatten,[q]) l4 else .ok (ps.flatten,[]) l3
def defT(outer:Bool)(l:List Tok):R (Tok × Bool):=(nameT en l).bind fun t l1=>if outer && isS [42] l1 then .ok (t,true) l1.tail else .ok (t,false) l1
def fieldsP(r:Rc)(l:List Tok):R (List (List UInt8 × Bool × Ty × Int)):=
 if isN l then(manyC comma (defT en true) (l.length+1) l).bind fun ts l1=>(skip en [58] l1).bind fun _ l2=>(r.ty l2).bind fun t l3 => .ok (ts.map fun x=>(x.1.2.1,x.2,t,x.1.2.2.2)) l3 else .ok [] l
def typP(r:Rc)(l:List Tok):R Ty:=
 if isS [65,82,82,65,89] l then(manyC comma (exprP en r) (l.length+1) l.tail).bind fun xs l1=>(skip en [79,70] l1).bind fun _ l2=>(r.ty l2).bind fun e l3 => .ok (.mk 2 [] [] xs [e] [] [] [] [] (posOf en l)) l3
 else if isS [82,69,67,79,82,68] l then
  (if isS [40] l.tail then(qualP en l.tail.tail).bind fun q l1=>(skip en [41] l1).bind fun _ l2 => .ok [q] l2 else .ok [] l.tail).bind fun bs l3 =>
   (manyC [59] (fieldsP en r) (l.length+1) l3).bind fun fs l4=>(skip en [69,78,68] l4).bind fun _ l5 => .ok (.mk 3 [] [] [] [] bs fs.flatten [] [] (posOf en l)) l5
 else if isS [80,79,73,78,84,69,82] l then(skip en [84,79] l.tail).bind fun _ l1=>(r.ty l1).bind fun e l2 => .ok (.mk 4 [] [] [] [e] [] [] [] [] (posOf en l)) l2
 else if isS [80,82,79,67,69,68,85,82,69] l then(if isS [40] l.tail then(formalsP en r l.tail).bind fun f l1 => .ok (.mk 5 [] [] [] [] [] [] f.1 f.2 (posOf en l)) l1 else .ok (.mk 5 [] [] [] [] [] [] [] [] (posOf en l)) l.tail)
 else qualP en l
/-! statements -/
def armsP(r:Rc)(w:List UInt8)(l:List Tok):R (List (Ex × List St)):=
 manyC [69,76,83,73,70] (fun l=>(exprP en r l).bind fun e l1=>(skip en w l1).bind fun _ l2=>(r.st l2).bind fun s l3 => .ok (e,s) l3) (l.length+1) l
def statO(r:Rc)(l:List Tok):R (Option St):=
 let p:=posOf en l
 if isN l then(designP en r l).bind fun d l1=>if isS [58,61] l1 then(exprP en r l1.tail).bind fun e l2 => .ok (some (.mk 1 [] [d,e] [] [] p)) l2 else .ok (some (.mk 2 [] [d] [] [] p)) l1
 else if isS [73,70] l then(armsP en r [84,72,69,78] l.tail).bind fun as l1 =>
  (if isS [69,76,83,69] l1 then(r.st l1.tail).bind fun s l2 => .ok [s] l2 else .ok [] l1).bind fun es l2=>(skip en [69,78,68] l2).bind fun _ l3 => .ok (some (.mk 3 [] (as.map (·.1)) [] (as.map (·.2)++es) p)) l3
 else if isS [87,72,73,76,69] l then(armsP en r [68,79] l.tail).bind fun as l1=>(skip en [69,78,68] l1).bind fun _ l2 => .ok (some (.mk 5 [] (as.map (·.1)) [] (as.map (·.2)) p)) l2
 else if isS [67,65,83,69] l then(exprP en r l.tail).bind fun e l1=>(skip en [79,70] l1).bind fun _ l2 =>
  (manyC [124] (fun l=>if startT l=0 then .ok none l else(labelsP (exprP en r) l).bind fun ls l1=>(skip en [58] l1).bind fun _ l2=>(r.st l2).bind fun s l3 => .ok (some (ls,s)) l3) (l.length+1) l2).bind fun cs l3 =>
   (skip en [69,78,68] l3).bind fun _ l4 => .ok (some (.mk 4 [] [e] ((cs.filterMap id).map (·.1)) ((cs.filterMap id).map (·.2)) p)) l4
 else if isS [82,69,80,69,65,84] l then(r.st l.tail).bind fun s l1=>(skip en [85,78,84,73,76] l1).bind fun _ l2=>(exprP en r l2).bind fun e l3 => .ok (some (.mk 6 [] [e] [] [s] p)) l3
 else if isS [70,79,82] l then(nameT en l.tail).bind fun t l1=>(skip en [58,61] l1).bind fun _ l2=>(exprP en r l2).bind fun a l3=>(skip en [84,79] l3).bind fun _ l4=>(exprP en r l4).bind fun c l5 =>
  (if isS [66,89] l5 then(exprP en r l5.tail).bind fun d l6 => .ok [d] l6 else .ok [] l5).bind fun ds l6=>(skip en [68,79] l6).bind fun _ l7=>(r.st l7).bind fun s l8=>(skip en [69,78,68] l8).bind fun _ l9 => .ok (some (.mk 7 t.2.1 (a::c::ds) [] [s] p)) l9
 else .ok none l
def statsP(r:Rc)(l:List Tok):R (List St):=(manyC [59] (statO en r) (l.length+1) l).bind fun ss l1 => .ok (ss.filterMap id) l1
def pr:Nat→Rc
 | 0=>⟨fun _ => .no 0,fun _ => .no 0,fun _ => .no 0,fun _ => .no 0,fun _ => .no 0⟩
 | n+1=>⟨exprP en (pr n),factorP en (pr n),typP en (pr n),openP en (pr n),statsP en (pr n)⟩
/-! modules -/
def constP(r:Rc)(outer:Bool)(l:List Tok):R (List UInt8 × Bool × Ex × Int):=(defT en outer l).bind fun t l1=>(skip en [61] l1).bind fun _ l2=>(exprP en r l2).bind fun e l3=>(skip en [59] l3).bind fun _ l4 => .ok (t.1.2.1,t.2,e,t.1.2.2.2) l4
def typeP(r:Rc)(outer:Bool)(l:List Tok):R (List UInt8 × Bool × Ty × Int):=(defT en outer l).bind fun t l1=>(skip en [61] l1).bind fun _ l2=>(typP en r l2).bind fun e l3=>(skip en [59] l3).bind fun _ l4 => .ok (t.1.2.1,t.2,e,t.1.2.2.2) l4
def varP(r:Rc)(outer:Bool)(l:List Tok):R (List (List UInt8 × Bool × Ty × Int)):=(manyC comma (defT en outer) (l.length+1) l).bind fun ts l1=>(skip en [58] l1).bind fun _ l2=>(typP en r l2).bind fun t l3=>(skip en [59] l3).bind fun _ l4 => .ok (ts.map fun x=>(x.1.2.1,x.2,t,x.1.2.2.2)) l4
def declsP(r:Rc)(outer:Bool)(l:List Tok):R De:=
 (if isS [67,79,78,83,84] l then whileN (constP en r outer) (l.length+1) l.tail else .ok [] l).bind fun cs l1 =>
 (if isS [84,89,80,69] l1 then whileN (typeP en r outer) (l.length+1) l1.tail else .ok [] l1).bind fun ts l2 =>
 (if isS [86,65,82] l2 then whileN (varP en r outer) (l.length+1) l2.tail else .ok [] l2).bind fun vs l3 => .ok ⟨cs,ts,vs.flatten⟩ l3
def endsP(w:List UInt8)(l:List Tok):R Unit:=(skip en [69,78,68] l).bind fun _ l1=>if isN l1 && (peek en l1).2.1 == w then .ok () l1.tail else .no (posOf en l1)
def procP(r:Rc)(l:List Tok):R Pr:=
 (skip en [80,82,79,67,69,68,85,82,69] l).bind fun _ l1=>(defT en true l1).bind fun t l2 =>
 (if isS [40] l2 then formalsP en r l2 else .ok ([],[]) l2).bind fun f l3=>(skip en [59] l3).bind fun _ l4=>(declsP en r false l4).bind fun d l5 =>
 (if isS [66,69,71,73,78] l5 then statsP en r l5.tail else .ok [] l5).bind fun s l6=>(if isS [82,69,84,85,82,78] l6 then(exprP en r l6.tail).bind fun e l7 => .ok [e] l7 else .ok [] l6).bind fun rs l7 =>
 (endsP en t.1.2.1 l7).bind fun _ l8 => .ok ⟨t.1.2.1,t.2,f.1,f.2,d,s,rs,posOf en l⟩ l8
def procsP(r:Rc):Nat→List Tok→R (List Pr)
 | 0,_ => .no 0
 | n+1,l=>if isS [80,82,79,67,69,68,85,82,69] l then(procP en r l).bind fun p l1=>(skip en [59] l1).bind fun _ l2=>(procsP r n l2).bind fun ps l3 => .ok (p::ps) l3 else .ok [] l
def importP(l:List Tok):R (List UInt8 × List UInt8 × Int):=(nameT en l).bind fun t l1=>if isS [58,61] l1 then(nameT en l1.tail).bind fun u l2 => .ok (t.2.1,u.2.1,t.2.2.2) l2 else .ok (t.2.1,t.2.1,t.2.2.2) l1
def moduleP(r:Rc)(l:List Tok):R Mo:=
 (skip en [77,79,68,85,76,69] l).bind fun _ l1=>(nameT en l1).bind fun t l2=>(skip en [59] l2).bind fun _ l3 =>
 (if isS [73,77,80,79,82,84] l3 then(manyC comma (importP en) (l.length+1) l3.tail).bind fun is l4=>(skip en [59] l4).bind fun _ l5 => .ok is l5 else .ok [] l3).bind fun is l5 =>
 (declsP en r true l5).bind fun d l6=>(procsP en r (l.length+1) l6).bind fun ps l7=>(if isS [66,69,71,73,78] l7 then statsP en r l7.tail else .ok [] l7).bind fun s l8 =>
 (endsP en t.2.1 l8).bind fun _ l9=>(skip en [46] l9).bind fun _ l10 => .ok ⟨t.2.1,is,d,ps,s,posOf en l⟩ l10
def parsedP(l:List Tok):Except Int Mo:=match moduleP en (pr en (l.length+1)) l with | .ok m l1=>if l1=[]then .ok m else .error (posOf en l1) | .no p => .error p
end
end Tr
namespace Tr
def Suf{α:Type}(l:List Tok)(r:R α):Prop:=∀ a l',r=.ok a l'→∃ t,l=t++l'
def Con{α:Type}(l:List Tok)(r:R α):Prop:=∀ a l',r=.ok a l'→∃ x t,l=x::t++l'
section
variable {α β:Type} {l:List Tok} {r:R α} {f:α→List Tok→R β}
theorem Con.suf(h:Con l r):Suf l r:=fun a l' e=>by
 obtain⟨x,t,h⟩:=h a l' e
 exact⟨x::t,h⟩
theorem suf_ok(a:α)(l:List Tok):Suf l (.ok a l):=fun b l' e=>by cases e;exact⟨[],rfl⟩
theorem suf_no(p:Int):Suf l (.no p:R α):=fun b l' e=>by cases e
theorem con_no(p:Int):Con l (.no p:R α):=fun b l' e=>by cases e
theorem suf_bind(h:Suf l r)(hf:∀ a l',Suf l' (f a l')):Suf l (r.bind f):=fun b l2 e=>by
 cases hr:r with
 | no p=>rw [hr]at e;cases e
 | ok a l1 =>
  rw [hr]at e
  obtain⟨t,h1⟩:=h a l1 hr
  obtain⟨u,h2⟩:=hf a l1 b l2 e
  exact⟨t++u,by rw [h1,h2,List.append_assoc]⟩
theorem con_bind(h:Con l r)(hf:∀ a l',Suf l' (f a l')):Con l (r.bind f):=fun b l2 e=>by
 cases hr:r with
 | no p=>rw [hr]at e;cases e
 | ok a l1 =>
  rw [hr]at e
  obtain⟨x,t,h1⟩:=h a l1 hr
  obtain⟨u,h2⟩:=hf a l1 b l2 e
  exact⟨x,t++u,by rw [h1,h2];simp⟩
theorem suf_tail(h:Suf l.tail r):Suf l r:=fun a l' e=>by
 obtain⟨t,h⟩:=h a l' e
 cases l with
 | nil=>exact⟨t,h⟩
 | cons x u=>exact⟨x::t,by rw [List.tail_cons]at h;rw [h];rfl⟩
theorem con_tail(hl:l ≠ [])(h:Suf l.tail r):Con l r:=fun a l' e=>by
 obtain⟨t,h⟩:=h a l' e
 cases l with
 | nil=>exact absurd rfl hl
 | cons x u=>exact⟨x,t,by rw [List.tail_cons]at h;rw [h];rfl⟩
end
theorem isS_ne{w:List UInt8}{l:List Tok}(h:isS w l=true):l ≠ []:=by rintro rfl;cases h
theorem isN_ne{l:List Tok}(h:isN l=true):l ≠ []:=by rintro rfl;cases h
theorem opT_ne{ws:List (List UInt8)}{l:List Tok}{o:List UInt8}(h:opT ws l=some o):l ≠ []:=by rintro rfl;cases h
theorem start_ne{l:List Tok}(h:startT l ≠ 0):l ≠ []:=by rintro rfl;exact h rfl
variable (en:Int)
theorem con_skip(w:List UInt8)(l:List Tok):Con l (skip en w l):=by
 unfold skip
 split
 ·rename_i h;exact con_tail (isS_ne h) (suf_ok _ _)
 ·exact con_no _
theorem con_name(l:List Tok):Con l (nameT en l):=by
 unfold nameT
 split
 ·rename_i h;exact con_tail (isN_ne h) (suf_ok _ _)
 ·exact con_no _
theorem suf_many{α:Type}(w:List UInt8)(F:List Tok→R α)(hF:∀ l,Suf l (F l)):∀ n l,Suf l (manyC w F n l):=by
 intro n
 induction n with
 | zero=>intro l;exact suf_no _
 | succ n ih =>
  intro l
  refine suf_bind (hF l) fun a l1=>?_
  split
  ·exact suf_tail (suf_bind (ih _) fun as l2=>suf_ok _ _)
  ·exact suf_ok _ _
theorem con_many{α:Type}(w:List UInt8)(F:List Tok→R α)(hF:∀ l,Con l (F l)):∀ n l,Con l (manyC w F n l):=by
 intro n
 cases n with
 | zero=>intro l;exact con_no _
 | succ n =>
  intro l
  refine con_bind (hF l) fun a l1=>?_
  split
  ·exact suf_tail (suf_bind (suf_many w F (fun l=>(hF l).suf) n _) fun as l2=>suf_ok _ _)
  ·exact suf_ok _ _
theorem suf_while{α:Type}(F:List Tok→R α)(hF:∀ l,Con l (F l)):∀ n l,Suf l (whileN F n l):=by
 intro n
 induction n with
 | zero=>intro l;exact suf_no _
 | succ n ih =>
  intro l
  unfold whileN
  split
  ·exact suf_bind (hF l).suf fun a l1=>suf_bind (ih _) fun as l2=>suf_ok _ _
  ·exact suf_ok _ _
structure Rg(r:Rc):Prop where
 ex:∀ l,Con l (r.ex l)
 fa:∀ l,Con l (r.fa l)
 ty:∀ l,Con l (r.ty l)
 op:∀ l,Con l (r.op l)
 st:∀ l,Suf l (r.st l)
theorem con_labels(E:List Tok→R Ex)(hE:∀ l,Con l (E l))(l:List Tok):Con l (labelsP E l):=by
 refine con_many _ _ (fun l=>con_bind (hE l) fun a l1=>?_) _ _
 split
 ·exact suf_tail (suf_bind (hE _).suf fun _ _=>suf_ok _ _)
 ·exact suf_ok _ _
theorem suf_worded{r:Rc}(h:Rg r)(w:List UInt8)(n p:Int)(l:List Tok):Suf l (wordedP en r w n p l):=by
 unfold wordedP
 repeat' split
 all_goals first
  | exact suf_ok _ _
  | exact suf_tail (suf_ok _ _)
  | exact suf_bind (con_labels _ h.ex l).suf fun _ _=>suf_bind (con_skip en _ _).suf fun _ _=>suf_ok _ _
  | exact suf_bind (h.ex l).suf fun _ _=>suf_bind (con_skip en _ _).suf fun _ _=>suf_ok _ _
  | exact suf_bind (h.fa l).suf fun _ _=>suf_ok _ _
theorem suf_designL{r:Rc}(h:Rg r):∀ n e l,Suf l (designL en r n e l):=by
 intro n
 induction n with
 | zero=>intro e l;exact suf_no _
 | succ n ih =>
  intro e l
  unfold designL
  split
  ·exact suf_tail (suf_bind (con_name en _).suf fun _ _=>ih _ _)
  ·split
   ·exact suf_tail (suf_bind (suf_many _ _ (fun l=>(h.ex l).suf) _ _) fun _ _=>suf_bind (con_skip en _ _).suf fun _ _=>ih _ _)
   ·split
    ·exact suf_tail (ih _ _)
    ·split
     ·refine suf_tail (suf_bind ?_ fun _ _=>suf_bind (con_skip en _ _).suf fun _ _=>ih _ _)
      split
      ·exact suf_ok _ _
      ·exact suf_many _ _ (fun l=>(h.ex l).suf) _ _
     ·exact suf_ok _ _
theorem con_design{r:Rc}(h:Rg r)(l:List Tok):Con l (designP en r l):=con_bind (con_name en l) fun _ _=>suf_designL en h _ _ _
theorem con_factor{r:Rc}(h:Rg r)(l:List Tok):Con l (factorP en r l):=by
 unfold factorP
 split
 ·exact con_design en h l
 ·split
  ·rename_i h2
   have hne:l ≠ []:=start_ne (by rw [h2];decide)
   simp only
   repeat' split
   all_goals first
    | exact con_tail hne (suf_ok _ _)
    | exact con_tail hne (suf_worded en h _ _ _ _)
  ·exact con_no _
theorem suf_binL(os:List (List UInt8))(F:List Tok→R Ex)(hF:∀ l,Con l (F l)):∀ n a l,Suf l (binL os F n a l):=by
 intro n
 induction n with
 | zero=>intro a l;exact suf_no _
 | succ n ih =>
  intro a l
  unfold binL
  split
  ·exact suf_tail (suf_bind (hF _).suf fun _ _=>ih _ _)
  ·exact suf_ok _ _
theorem con_term{r:Rc}(h:Rg r)(l:List Tok):Con l (termP en r l):=con_bind (con_factor en h l) fun _ _=>suf_binL _ _ (con_factor en h) _ _ _
theorem con_simple{r:Rc}(h:Rg r)(l:List Tok):Con l (simpleP en r l):=by
 unfold simpleP
 split
 ·rename_i ho;exact con_tail (opT_ne ho) (suf_bind (con_term en h _).suf fun _ _=>suf_binL _ _ (con_term en h) _ _ _)
 ·exact con_bind (con_term en h l) fun _ _=>suf_binL _ _ (con_term en h) _ _ _
theorem con_expr{r:Rc}(h:Rg r)(l:List Tok):Con l (exprP en r l):=by
 refine con_bind (con_simple en h l) fun a l1=>?_
 split
 ·exact suf_tail (suf_bind (con_simple en h _).suf fun _ _=>suf_ok _ _)
 ·exact suf_ok _ _
theorem con_qual(l:List Tok):Con l (qualP en l):=by
 refine con_bind (con_name en l) fun t l1=>?_
 split
 ·exact suf_tail (suf_bind (con_name en _).suf fun _ _=>suf_ok _ _)
 ·exact suf_ok _ _
theorem con_open{r:Rc}(h:Rg r)(l:List Tok):Con l (openP en r l):=by
 unfold openP
 split
 ·rename_i hs;exact con_tail (isS_ne hs) (suf_bind (con_skip en _ _).suf fun _ _=>suf_bind (h.op _).suf fun _ _=>suf_ok _ _)
 ·exact con_qual en l
theorem suf_took(w:List UInt8)(l:List Tok):∃ t,l=t++(took w l).2:=by
 unfold took
 split
 ·cases l with
  | nil=>exact⟨[],rfl⟩
  | cons x u=>exact⟨[x],rfl⟩
 ·exact⟨[],rfl⟩
theorem con_section{r:Rc}(h:Rg r)(l:List Tok):Con l (sectionP en r l):=by
 unfold sectionP
 simp only
 intro a l' e
 obtain⟨t,ht⟩:=suf_took [86,65,82] l
 obtain⟨x,u,hu⟩:=(con_bind (con_many comma _ (con_name en) (l.length+1) _) fun _ _=>suf_bind (con_skip en _ _).suf fun _ _=>suf_bind (con_open en h _).suf fun _ _=>suf_ok _ _) a l' e
 cases t with
 | nil=>exact⟨x,u,by rw [ht,hu];rfl⟩
 | cons y t=>exact⟨y,t++(x::u),by rw [ht,hu];simp⟩
theorem con_formals{r:Rc}(h:Rg r)(l:List Tok):Con l (formalsP en r l):=by
 refine con_bind (con_skip en _ _) fun _ l1=>suf_bind ?_ fun ps l2=>suf_bind (con_skip en _ _).suf fun _ l3=>?_
 ·split
  ·exact suf_ok _ _
  ·exact suf_many _ _ (fun l=>(con_section en h l).suf) _ _
 ·split
  ·exact suf_tail (suf_bind (con_qual en _).suf fun _ _=>suf_ok _ _)
  ·exact suf_ok _ _
theorem con_def(o:Bool)(l:List Tok):Con l (defT en o l):=by
 refine con_bind (con_name en l) fun t l1=>?_
 split
 ·exact suf_tail (suf_ok _ _)
 ·exact suf_ok _ _
theorem suf_fields{r:Rc}(h:Rg r)(l:List Tok):Suf l (fieldsP en r l):=by
 unfold fieldsP
 split
 ·exact suf_bind (con_many _ _ (con_def en true) _ _).suf fun _ _=>suf_bind (con_skip en _ _).suf fun _ _=>suf_bind (h.ty _).suf fun _ _=>suf_ok _ _
 ·exact suf_ok _ _
theorem con_typ{r:Rc}(h:Rg r)(l:List Tok):Con l (typP en r l):=by
 unfold typP
 split
 ·rename_i hs
  exact con_tail (isS_ne hs) (suf_bind (con_many _ _ (con_expr en h) _ _).suf fun _ _=>suf_bind (con_skip en _ _).suf fun _ _=>suf_bind (h.ty _).suf fun _ _=>suf_ok _ _)
 ·split
  ·rename_i hs
   refine con_tail (isS_ne hs) (suf_bind ?_ fun bs l3=>suf_bind (suf_many _ _ (suf_fields en h) _ _) fun _ _=>suf_bind (con_skip en _ _).suf fun _ _=>suf_ok _ _)
   split
   ·exact suf_tail (suf_bind (con_qual en _).suf fun _ _=>suf_bind (con_skip en _ _).suf fun _ _=>suf_ok _ _)
   ·exact suf_ok _ _
  ·split
   ·rename_i hs
    exact con_tail (isS_ne hs) (suf_bind (con_skip en _ _).suf fun _ _=>suf_bind (h.ty _).suf fun _ _=>suf_ok _ _)
   ·split
    ·rename_i hs
     split
     ·exact con_tail (isS_ne hs) (suf_bind (con_formals en h _).suf fun _ _=>suf_ok _ _)
     ·exact con_tail (isS_ne hs) (suf_ok _ _)
    ·exact con_qual en l
theorem con_arms{r:Rc}(h:Rg r)(w:List UInt8)(l:List Tok):Con l (armsP en r w l):=
 con_many _ _ (fun l=>con_bind (con_expr en h l) fun _ _=>suf_bind (con_skip en _ _).suf fun _ _=>suf_bind (h.st _) fun _ _=>suf_ok _ _) _ _
theorem stat_passes{r:Rc}(h:Rg r)(l:List Tok):∀ o l',statO en r l=.ok o l'→(∃ t,l=t++l')∧(o ≠ none→∃ x t,l=x::t++l'):=by
 have C:∀{α:Type} {x:R α} {o:α} {l':List Tok} {p:Prop},Con l x→x=.ok o l'→(∃ t,l=t++l')∧(p→∃ x t,l=x::t++l'):=fun hc e=>⟨hc.suf _ _ e,fun _=>hc _ _ e⟩
 intro o l' e
 unfold statO at e
 simp only at e
 split at e
 ·refine C (con_bind (con_design en h l) fun d l1=>?_) e
  split
  ·exact suf_tail (suf_bind (con_expr en h _).suf fun _ _=>suf_ok _ _)
  ·exact suf_ok _ _
 ·split at e
  ·rename_i hs
   refine C (con_tail (isS_ne hs) (suf_bind (con_arms en h _ _).suf fun as l1=>suf_bind ?_ fun es l2=>suf_bind (con_skip en _ _).suf fun _ _=>suf_ok _ _)) e
   split
   ·exact suf_tail (suf_bind (h.st _) fun _ _=>suf_ok _ _)
   ·exact suf_ok _ _
  ·split at e
   ·rename_i hs
    exact C (con_tail (isS_ne hs) (suf_bind (con_arms en h _ _).suf fun as l1=>suf_bind (con_skip en _ _).suf fun _ _=>suf_ok _ _)) e
   ·split at e
    ·rename_i hs
     refine C (con_tail (isS_ne hs) (suf_bind (con_expr en h _).suf fun _ _=>suf_bind (con_skip en _ _).suf fun _ _=>suf_bind (suf_many _ _ (fun l=>?_) _ _) fun _ _=>suf_bind (con_skip en _ _).suf fun _ _=>suf_ok _ _)) e
     split
     ·exact suf_ok _ _
     ·exact suf_bind (con_labels _ (con_expr en h) _).suf fun _ _=>suf_bind (con_skip en _ _).suf fun _ _=>suf_bind (h.st _) fun _ _=>suf_ok _ _
    ·split at e
     ·rename_i hs
      exact C (con_tail (isS_ne hs) (suf_bind (h.st _) fun _ _=>suf_bind (con_skip en _ _).suf fun _ _=>suf_bind (con_expr en h _).suf fun _ _=>suf_ok _ _)) e
     ·split at e
      ·rename_i hs
       refine C (con_tail (isS_ne hs) (suf_bind (con_name en _).suf fun _ _=>suf_bind (con_skip en _ _).suf fun _ _=>suf_bind (con_expr en h _).suf fun _ _=>suf_bind (con_skip en _ _).suf fun _ _=>suf_bind (con_expr en h _).suf fun _ l5=>suf_bind ?_ fun _ _=>suf_bind (con_skip en _ _).suf fun _ _=>suf_bind (h.st _) fun _ _=>suf_bind (con_skip en _ _).suf fun _ _=>suf_ok _ _)) e
       split
       ·exact suf_tail (suf_bind (con_expr en h _).suf fun _ _=>suf_ok _ _)
       ·exact suf_ok _ _
      ·cases e;exact⟨⟨[],rfl⟩,fun hn=>absurd rfl hn⟩
theorem suf_stat{r:Rc}(h:Rg r)(l:List Tok):Suf l (statO en r l):=fun o l' e=>(stat_passes en h l o l' e).1
theorem suf_stats{r:Rc}(h:Rg r)(l:List Tok):Suf l (statsP en r l):=suf_bind (suf_many _ _ (suf_stat en h) _ _) fun _ _=>suf_ok _ _
theorem rg_pr:∀ n,Rg (pr en n)
 | 0=>⟨fun _=>con_no _,fun _=>con_no _,fun _=>con_no _,fun _=>con_no _,fun _=>suf_no _⟩
 | n+1=>⟨con_expr en (rg_pr n),con_factor en (rg_pr n),con_typ en (rg_pr n),con_open en (rg_pr n),suf_stats en (rg_pr n)⟩
end Tr
namespace Tr
variable (en:Int)
def Ris(l:List Tok):Prop:=l.Pairwise (fun a b=>a.2.2.2<b.2.2.2)∧∀ t∈l,t.2.2.2<en
variable {en}
theorem Ris.suf{l t l':List Tok}(h:Ris en l)(e:l=t++l'):Ris en l':=by
 subst e
 exact⟨(List.pairwise_append.1 h.1).2.1,fun x hx=>h.2 x (List.mem_append_right _ hx)⟩
theorem Ris.tail{l:List Tok}(h:Ris en l):Ris en l.tail:=by
 cases l with
 | nil=>exact h
 | cons x t=>exact h.suf (t:=[x]) rfl
variable (en)
theorem bind_ok{α β:Type}{r:R α}{f:α→List Tok→R β}{b:β}{l2:List Tok}(h:r.bind f=.ok b l2):∃ a l1,r=.ok a l1∧f a l1=.ok b l2:=by
 cases hr:r with
 | no p=>rw [hr]at h;cases h
 | ok a l1=>rw [hr]at h;exact⟨a,l1,rfl,h⟩
/-! statements,procedures,modules -/
end Tr
namespace Tr
variable (en:Int)
theorem con_const{r:Rc}(h:Rg r)(o:Bool)(l:List Tok):Con l (constP en r o l):=
 con_bind (con_def en o l) fun _ _=>suf_bind (con_skip en _ _).suf fun _ _=>suf_bind (con_expr en h _).suf fun _ _=>suf_bind (con_skip en _ _).suf fun _ _=>suf_ok _ _
theorem con_type{r:Rc}(h:Rg r)(o:Bool)(l:List Tok):Con l (typeP en r o l):=
 con_bind (con_def en o l) fun _ _=>suf_bind (con_skip en _ _).suf fun _ _=>suf_bind (con_typ en h _).suf fun _ _=>suf_bind (con_skip en _ _).suf fun _ _=>suf_ok _ _
theorem con_var{r:Rc}(h:Rg r)(o:Bool)(l:List Tok):Con l (varP en r o l):=
 con_bind (con_many _ _ (con_def en o) _ _) fun _ _=>suf_bind (con_skip en _ _).suf fun _ _=>suf_bind (con_typ en h _).suf fun _ _=>suf_bind (con_skip en _ _).suf fun _ _=>suf_ok _ _
theorem suf_decls{r:Rc}(h:Rg r)(o:Bool)(l:List Tok):Suf l (declsP en r o l):=by
 refine suf_bind ?_ fun cs l1=>suf_bind ?_ fun ts l2=>suf_bind ?_ fun vs l3=>suf_ok _ _
 ·split
  ·exact suf_tail (suf_while _ (con_const en h o) _ _)
  ·exact suf_ok _ _
 ·split
  ·exact suf_tail (suf_while _ (con_type en h o) _ _)
  ·exact suf_ok _ _
 ·split
  ·exact suf_tail (suf_while _ (con_var en h o) _ _)
  ·exact suf_ok _ _
theorem con_ends(w:List UInt8)(l:List Tok):Con l (endsP en w l):=by
 refine con_bind (con_skip en _ _) fun _ l1=>?_
 split
 ·exact suf_tail (suf_ok _ _)
 ·exact suf_no _
theorem con_proc{r:Rc}(h:Rg r)(l:List Tok):Con l (procP en r l):=by
 refine con_bind (con_skip en _ _) fun _ l1=>suf_bind (con_def en true _).suf fun t l2=>suf_bind ?_ fun f l3=>suf_bind (con_skip en _ _).suf fun _ l4=>suf_bind (suf_decls en h false _) fun d l5=>suf_bind ?_ fun s l6=>suf_bind ?_ fun rs l7=>suf_bind (con_ends en _ _).suf fun _ l8=>suf_ok _ _
 ·split
  ·exact(con_formals en h _).suf
  ·exact suf_ok _ _
 ·split
  ·exact suf_tail (suf_stats en h _)
  ·exact suf_ok _ _
 ·split
  ·exact suf_tail (suf_bind (con_expr en h _).suf fun _ _=>suf_ok _ _)
  ·exact suf_ok _ _
end Tr
namespace Tr
def GT(t:Tok):Prop:=Tk.Good t.1 t.2.1 t.2.2.1
inductive AllP{α:Type}(P:α→Prop):List α→Prop where
 | nil:AllP P []
 | cons {a:α} {l:List α} (h:P a) (t:AllP P l):AllP P (a::l)
abbrev GL(l:List Tok):Prop:=AllP GT l
def NM(w:List UInt8):Prop:=Tk.Good 1 w 0
def Des:Ex→Prop | .mk k _ _ _ _ _=>k=8∨k=9∨k=10∨k=11∨k=12
inductive WL(P:Ex→Prop):Ex→Prop where
 | plain (e:Ex) (h:P e):WL P e
 | range (a b:Ex) (p:Int) (ha:P a) (hb:P b):WL P (.mk 7 0 [] [] [a,b] p)
inductive WE:Ex→Prop where
 | int (n p:Int) (h:Tk.Good 3 [] n):WE (.mk 1 n [] [] [] p)
 | chr (n p:Int) (h:Tk.Good 4 [] n):WE (.mk 2 n [] [] [] p)
 | txt (t:List UInt8) (p:Int) (h:Tk.Good 5 t 0):WE (.mk 3 0 t [] [] p)
 | nil (p:Int):WE (.mk 4 0 [] [] [] p)
 | bool (n p:Int) (h:n=0∨n=1):WE (.mk 5 n [] [] [] p)
 | set (as:List Ex) (p:Int) (h:AllP (WL WE) as):WE (.mk 6 0 [] [] as p)
 | name (t:List UInt8) (p:Int) (h:NM t):WE (.mk 8 0 t [] [] p)
 | dot (t:List UInt8) (a:Ex) (p:Int) (h:NM t) (ha:WE a) (hd:Des a):WE (.mk 9 0 t [] [a] p)
 | index (a b:Ex) (p:Int) (ha:WE a) (hd:Des a) (hb:WE b):WE (.mk 10 0 [] [] [a,b] p)
 | deref (a:Ex) (p:Int) (ha:WE a) (hd:Des a):WE (.mk 11 0 [] [] [a] p)
 | call (a:Ex) (as:List Ex) (p:Int) (ha:WE a) (hd:Des a) (h:AllP WE as):WE (.mk 12 0 [] [] (a::as) p)
 | unary (o:List UInt8) (a:Ex) (p:Int) (ho:o=[43]∨o=[45]∨o=[126]) (ha:WE a):WE (.mk 13 0 [] o [a] p)
 | binary (o:List UInt8) (a b:Ex) (p:Int) (ho:o∈relOps∨o∈addOps∨o∈mulOps) (ha:WE a) (hb:WE b):WE (.mk 14 0 [] o [a,b] p)
def WR{α:Type}(P:α→Prop)(x:R α):Prop:=match x with | .ok a l=>P a∧GL l | .no _=>True
theorem wr_ok{α:Type}{P:α→Prop}{a:α}{l:List Tok}(h:P a)(hl:GL l):WR P (.ok a l):=⟨h,hl⟩
theorem wr_no{α:Type}{P:α→Prop}(p:Int):WR P (.no p):=trivial
theorem wr_bind{α β:Type}{P:α→Prop}{Q:β→Prop}{x:R α}{f:α→List Tok→R β}(h:WR P x)(hf:∀ a l,P a→GL l→WR Q (f a l)):WR Q (x.bind f):=by
 cases x with
 | ok a l=>exact hf a l h.1 h.2
 | no p=>trivial
theorem gl_tail{l:List Tok}(h:GL l):GL l.tail:=by
 cases h with
 | nil=>exact .nil
 | cons h t=>exact t
variable (en:Int)
theorem wr_skip{l:List Tok}(h:GL l)(w:List UInt8):WR (fun _=>True) (skip en w l):=by
 unfold skip
 split
 ·exact wr_ok trivial (gl_tail h)
 ·exact wr_no _
theorem wr_name{l:List Tok}(h:GL l):WR (fun t=>NM t.2.1) (nameT en l):=by
 unfold nameT
 split
 ·rename_i hn
  cases h with
  | nil=>cases hn
  | @cons a l h t =>
   refine wr_ok ?_ t
   have h1:a.1=1:=by simpa [isN]using hn
   show Tk.Good 1 a.2.1 0
   unfold GT Tk.Good at h
   rw [h1]at h
   simp at h
   exact .inl ⟨rfl,rfl,h.2.1,h.2.2⟩
 ·exact wr_no _
theorem wr_many{α:Type}{P:α→Prop}(w:List UInt8)(F:List Tok→R α)(hF:∀ l,GL l→WR P (F l)):∀ n l,GL l→WR (AllP P) (manyC w F n l):=by
 intro n
 induction n with
 | zero=>intro l _;exact wr_no _
 | succ n ih =>
  intro l h
  refine wr_bind (hF l h) fun a l1 hp h1=>?_
  split
  ·exact wr_bind (ih _ (gl_tail h1)) fun as l2 hs h2=>wr_ok (.cons hp hs) h2
  ·exact wr_ok (.cons hp .nil) h1
theorem wr_while{α:Type}{P:α→Prop}(F:List Tok→R α)(hF:∀ l,GL l→WR P (F l)):∀ n l,GL l→WR (AllP P) (whileN F n l):=by
 intro n
 induction n with
 | zero=>intro l _;exact wr_no _
 | succ n ih =>
  intro l h
  unfold whileN
  split
  ·exact wr_bind (hF l h) fun a l1 hp h1=>wr_bind (ih _ h1) fun as l2 hs h2=>wr_ok (.cons hp hs) h2
  ·exact wr_ok .nil h
structure RW(r:Rc):Prop where
 ex:∀ l,GL l→WR WE (r.ex l)
 fa:∀ l,GL l→WR WE (r.fa l)
theorem wr_labels(E:List Tok→R Ex)(hE:∀ l,GL l→WR WE (E l))(l:List Tok)(h:GL l):WR (AllP (WL WE)) (labelsP E l):=by
 refine wr_many _ _ (fun l h=>wr_bind (hE l h) fun a l1 hp h1=>?_) _ _ h
 split
 ·exact wr_bind (hE _ (gl_tail h1)) fun c l2 hq h2=>wr_ok (.range _ _ _ hp hq) h2
 ·exact wr_ok (.plain _ hp) h1
theorem wr_worded{r:Rc}(h:RW r)(w:List UInt8)(n p:Int)(l:List Tok)(hl:GL l)(hn:n=0)(hw:startT ((6,w,n,p)::l)=2∨startT ((2,w,n,p)::l)=2):WR WE (wordedP en r w n p l):=by
 subst hn
 unfold wordedP
 split
 ·exact wr_ok (.nil p) hl
 ·split
  ·exact wr_ok (.bool _ _ (.inr rfl)) hl
  ·split
   ·exact wr_ok (.bool _ _ (.inl rfl)) hl
   ·split
    ·split
     ·exact wr_ok (.set _ _ .nil) (gl_tail hl)
     ·exact wr_bind (wr_labels _ h.ex _ hl) fun _ _ hp h1=>wr_bind (wr_skip en h1 _) fun _ _ _ h2=>wr_ok (.set _ _ hp) h2
    ·split
     ·exact wr_bind (h.ex _ hl) fun _ _ hp h1=>wr_bind (wr_skip en h1 _) fun _ _ _ h2=>wr_ok hp h2
     ·split
      ·exact wr_bind (h.fa _ hl) fun _ _ hp h1=>wr_ok (.unary _ _ _ (.inr (.inr rfl)) hp) h1
      ·rename_i h1 h2 h3 h4 h5 h6
       exfalso
       rcases hw with hw|hw
       ·simp [startT,h4,h5,h6]at hw
        split at hw <;> simp at hw
       ·simp [startT,h1,h2,h3]at hw
theorem des_fold{xs:List Ex}(h:AllP WE xs):∀ e,WE e→Des e→WE (xs.foldl (fun e x => .mk 10 0 [] [] [e,x] (exPos e)) e)∧Des (xs.foldl (fun e x => .mk 10 0 [] [] [e,x] (exPos e)) e):=by
 induction h with
 | nil=>intro e h1 h2;exact⟨h1,h2⟩
 | cons hx t ih=>intro e h1 h2;exact ih _ (.index _ _ _ h1 h2 hx) (by simp [Des])
def WD(e:Ex):Prop:=WE e∧Des e
theorem wr_designL{r:Rc}(h:RW r):∀ n e l,WD e→GL l→WR WD (designL en r n e l):=by
 intro n
 induction n with
 | zero=>intro e l _ _;exact wr_no _
 | succ n ih =>
  intro e l he hl
  unfold designL
  have htl:=gl_tail hl
  split
  ·exact wr_bind (wr_name en htl) fun t l1 hp h1=>ih _ _ ⟨.dot _ _ _ hp he.1 he.2,by simp [Des]⟩ h1
  ·split
   ·exact wr_bind (wr_many _ _ h.ex _ _ htl) fun _ _ hp h1=>wr_bind (wr_skip en h1 _) fun _ _ _ h2=>ih _ _ (des_fold hp _ he.1 he.2) h2
   ·split
    ·exact ih _ _ ⟨.deref _ _ he.1 he.2,by simp [Des]⟩ htl
    ·split
     ·refine wr_bind (P:=AllP WE) ?_ fun _ _ hp h1=>wr_bind (wr_skip en h1 _) fun _ _ _ h2=>ih _ _ ⟨.call _ _ _ he.1 he.2 hp,by simp [Des]⟩ h2
      split
      ·exact wr_ok .nil htl
      ·exact wr_many _ _ h.ex _ _ htl
     ·exact wr_ok he hl
theorem wr_design{r:Rc}(h:RW r)(l:List Tok)(hl:GL l):WR WD (designP en r l):=
 wr_bind (wr_name en hl) fun t l1 hp h1=>wr_designL en h _ _ _ ⟨.name _ _ hp,by simp [Des]⟩ h1
theorem wr_mono{α:Type}{P Q:α→Prop}{x:R α}(h:WR P x)(hpq:∀ a,P a→Q a):WR Q x:=by
 cases x with
 | ok a l=>exact⟨hpq _ h.1,h.2⟩
 | no p=>trivial
end Tr
namespace Tr
variable (en:Int)
theorem start_twoW{l:List Tok}(h:startT l=2):∃ t l',l=t::l':=by
 cases l with
 | nil=>cases h
 | cons t l'=>exact⟨t,l',rfl⟩
theorem wr_factor{r:Rc}(h:RW r)(l:List Tok)(hl:GL l):WR WE (factorP en r l):=by
 unfold factorP
 split
 ·exact wr_mono (wr_design en h l hl) fun _ hp=>hp.1
 ·split
  ·rename_i h2
   obtain⟨t,l',rfl⟩:=start_twoW h2
   obtain⟨k,w,n,p⟩:=t
   cases hl with
   | cons hg hl' =>
    show WR WE (if k=3 then .ok (.mk 1 n [] [] [] p) l' else if k=4 then .ok (.mk 2 n [] [] [] p) l' else if k=5 then .ok (.mk 3 n w [] [] p) l' else wordedP en r w n p l')
    have hG:Tk.Good k w n:=hg
    by_cases h3:k=3
    ·rw [if_pos h3]
     subst h3
     unfold Tk.Good at hG
     simp at hG
     exact wr_ok (.int _ _ (.inr (.inr (.inl ⟨rfl,rfl,hG.2.1,hG.2.2⟩)))) hl'
    ·rw [if_neg h3]
     by_cases h4:k=4
     ·rw [if_pos h4]
      subst h4
      unfold Tk.Good at hG
      simp at hG
      exact wr_ok (.chr _ _ (.inr (.inr (.inr (.inl ⟨rfl,rfl,hG.2.1,hG.2.2⟩))))) hl'
     ·rw [if_neg h4]
      by_cases h5:k=5
      ·rw [if_pos h5]
       subst h5
       unfold Tk.Good at hG
       simp at hG
       obtain⟨h0,h8,h9⟩:=hG
       subst h0
       exact wr_ok (.txt _ _ (.inr (.inr (.inr (.inr (.inl ⟨rfl,rfl,h8,h9⟩)))))) hl'
      ·rw [if_neg h5]
       have hk:k=2∨k=6:=by
        unfold startT at h2
        simp only at h2
        split at h2
        ·cases h2
        ·split at h2
         ·rename_i h6;omega
         ·split at h2
          ·rename_i h6;exact .inl h6
          ·split at h2
           ·rename_i h6;exact .inr h6
           ·cases h2
       have hn:n=0:=by
        unfold Tk.Good at hG
        rcases hk with rfl|rfl
        ·simp at hG;exact hG.1
        ·simp at hG;exact hG.1
       refine wr_worded en h w n p l' hl' hn ?_
       rcases hk with rfl|rfl
       ·exact .inr h2
       ·exact .inl h2
  ·exact wr_no _
theorem opT_mem{ws:List (List UInt8)}{l:List Tok}{o:List UInt8}(h:opT ws l=some o):o∈ws:=by
 unfold opT at h
 split at h
 ·split at h
  ·rename_i hc
   cases h
   simp at hc
   exact hc.2
  ·cases h
 ·cases h
theorem we_bin{o:List UInt8}{a b:Ex}(ho:o∈relOps∨o∈addOps∨o∈mulOps)(ha:WE a)(hb:WE b):WE (bin o a b):=by
 cases a with
 | mk k n t o' as p=>exact .binary _ _ _ _ ho ha hb
theorem wr_binL(os:List (List UInt8))(hos:∀ o∈os,o∈relOps∨o∈addOps∨o∈mulOps)(F:List Tok→R Ex)(hF:∀ l,GL l→WR WE (F l)):∀ n a l,WE a→GL l→WR WE (binL os F n a l):=by
 intro n
 induction n with
 | zero=>intro a l _ _;exact wr_no _
 | succ n ih =>
  intro a l ha hl
  unfold binL
  split
  ·rename_i o ho
   exact wr_bind (hF _ (gl_tail hl)) fun _ _ hp h1=>ih _ _ (we_bin (hos _ (opT_mem ho)) ha hp) h1
  ·exact wr_ok ha hl
theorem wr_term{r:Rc}(h:RW r)(l:List Tok)(hl:GL l):WR WE (termP en r l):=
 wr_bind (wr_factor en h l hl) fun _ _ hp h1=>wr_binL _ (fun _ ho => .inr (.inr ho)) _ (wr_factor en h) _ _ _ hp h1
theorem wr_simple{r:Rc}(h:RW r)(l:List Tok)(hl:GL l):WR WE (simpleP en r l):=by
 unfold simpleP
 split
 ·rename_i o ho
  have:=opT_mem ho
  simp at this
  exact wr_bind (wr_term en h _ (gl_tail hl)) fun _ _ hp h1=>wr_binL _ (fun _ ho => .inr (.inl ho)) _ (wr_term en h) _ _ _ (.unary _ _ _ (by rcases this with h|h <;> simp [h]) hp) h1
 ·exact wr_bind (wr_term en h _ hl) fun _ _ hp h1=>wr_binL _ (fun _ ho => .inr (.inl ho)) _ (wr_term en h) _ _ _ hp h1
theorem wr_expr{r:Rc}(h:RW r)(l:List Tok)(hl:GL l):WR WE (exprP en r l):=by
 refine wr_bind (wr_simple en h l hl) fun a l1 hp h1=>?_
 split
 ·rename_i o ho
  exact wr_bind (wr_simple en h _ (gl_tail h1)) fun _ _ hq h2=>wr_ok (we_bin (.inl (opT_mem ho)) hp hq) h2
 ·exact wr_ok hp h1
/-! types -/
abbrev FT:=List UInt8 × Bool × Ty × Int
inductive WQ:Ty→Prop where
 | mk (m n:List UInt8) (p:Int) (hm:m=[]∨NM m) (hn:NM n):WQ (.mk 1 m n [] [] [] [] [] [] p)
inductive WO:Ty→Prop where
 | qual (t:Ty) (h:WQ t):WO t
 | opn (e:Ty) (p:Int) (h:WO e):WO (.mk 6 [] [] [] [e] [] [] [] [] p)
inductive Wf(P:Ty→Prop):FT→Prop where
 | mk (n:List UInt8) (b:Bool) (t:Ty) (p:Int) (hn:NM n) (h:P t):Wf P (n,b,t,p)
def Most{α:Type}(P:α→Prop)(l:List α):Prop:=l=[]∨∃ a,l=[a]∧P a
inductive WT:Ty→Prop where
 | qual (t:Ty) (h:WQ t):WT t
 | arr (x:Ex) (xs:List Ex) (e:Ty) (p:Int) (hx:AllP WE (x::xs)) (he:WT e):WT (.mk 2 [] [] (x::xs) [e] [] [] [] [] p)
 | rcd (bs:List Ty) (fs:List FT) (p:Int) (hb:Most WQ bs) (hf:AllP (Wf WT) fs):WT (.mk 3 [] [] [] [] bs fs [] [] p)
 | ptr (e:Ty) (p:Int) (he:WT e):WT (.mk 4 [] [] [] [e] [] [] [] [] p)
 | prc (ps:List FT) (rs:List Ty) (p:Int) (hp:AllP (Wf WO) ps) (hr:Most WQ rs):WT (.mk 5 [] [] [] [] [] [] ps rs p)
theorem all_map{α β:Type}{P:α→Prop}{Q:β→Prop}{f:α→β}{l:List α}(h:AllP P l)(hf:∀ a,P a→Q (f a)):AllP Q (l.map f):=by
 induction h with
 | nil=>exact .nil
 | cons h t ih=>exact .cons (hf _ h) ih
theorem all_append{α:Type}{P:α→Prop}{l k:List α}(h:AllP P l)(h':AllP P k):AllP P (l++k):=by
 induction h with
 | nil=>exact h'
 | cons h t ih=>exact .cons h ih
theorem all_flatten{α:Type}{P:α→Prop}{l:List (List α)}(h:AllP (AllP P) l):AllP P l.flatten:=by
 induction h with
 | nil=>exact .nil
 | cons h t ih=>exact all_append h ih
theorem many_ne{α:Type}{P:List α→Prop}{w:List UInt8}{F:List Tok→R α}{n:Nat}{l:List Tok}(h:WR P (manyC w F n l)):WR (fun as=>P as∧as ≠ []) (manyC w F n l):=by
 cases n with
 | zero=>exact wr_no _
 | succ n =>
  unfold manyC at h ⊢
  cases hF:F l with
  | no p=>exact wr_no _
  | ok a l1 =>
   rw [hF]at h
   simp only [R.bind]at h ⊢
   split
   ·rename_i hs
    rw [if_pos hs]at h
    cases hm:manyC w F n l1.tail with
    | no p=>exact wr_no _
    | ok as l2=>rw [hm]at h;exact⟨⟨h.1,by simp⟩,h.2⟩
   ·rename_i hs
    rw [if_neg hs]at h
    exact⟨⟨h.1,by simp⟩,h.2⟩
theorem wr_qual(l:List Tok)(hl:GL l):WR WQ (qualP en l):=by
 refine wr_bind (wr_name en hl) fun t l1 hp h1=>?_
 split
 ·exact wr_bind (wr_name en (gl_tail h1)) fun u l2 hq h2=>wr_ok (.mk _ _ _ (.inr hp) hq) h2
 ·exact wr_ok (.mk _ _ _ (.inl rfl) hp) h1
structure RX(r:Rc):Prop extends RW r where
 ty:∀ l,GL l→WR WT (r.ty l)
 op:∀ l,GL l→WR WO (r.op l)
theorem wr_open{r:Rc}(h:RX r)(l:List Tok)(hl:GL l):WR WO (openP en r l):=by
 unfold openP
 split
 ·exact wr_bind (wr_skip en (gl_tail hl) _) fun _ _ _ h1=>wr_bind (h.op _ h1) fun _ _ hp h2=>wr_ok (.opn _ _ hp) h2
 ·exact wr_mono (wr_qual en l hl) fun _ h => .qual _ h
theorem gl_took{l:List Tok}(h:GL l)(w:List UInt8):GL (took w l).2:=by
 unfold took
 split
 ·exact gl_tail h
 ·exact h
theorem wr_section{r:Rc}(h:RX r)(l:List Tok)(hl:GL l):WR (AllP (Wf WO)) (sectionP en r l):=by
 unfold sectionP
 simp only
 exact wr_bind (wr_many _ _ (fun l h=>wr_name en h) _ _ (gl_took hl _)) fun _ _ hp h1=>wr_bind (wr_skip en h1 _) fun _ _ _ h2=>wr_bind (wr_open en h _ h2) fun _ _ hq h3=>wr_ok (all_map hp fun a ha => .mk _ _ _ _ ha hq) h3
theorem wr_formals{r:Rc}(h:RX r)(l:List Tok)(hl:GL l):WR (fun x=>AllP (Wf WO) x.1∧Most WQ x.2) (formalsP en r l):=by
 refine wr_bind (wr_skip en hl _) fun _ l1 _ h1=>wr_bind (P:=AllP (AllP (Wf WO))) ?_ fun ps l2 hp h2=>wr_bind (wr_skip en h2 _) fun _ l3 _ h3=>?_
 ·split
  ·exact wr_ok .nil h1
  ·exact wr_many _ _ (wr_section en h) _ _ h1
 ·split
  ·exact wr_bind (wr_qual en _ (gl_tail h3)) fun q _ hq h4=>wr_ok ⟨all_flatten hp,.inr ⟨q,rfl,hq⟩⟩ h4
  ·exact wr_ok ⟨all_flatten hp,.inl rfl⟩ h3
theorem wr_def(o:Bool)(l:List Tok)(hl:GL l):WR (fun x=>NM x.1.2.1∧(o=false→x.2=false)) (defT en o l):=by
 refine wr_bind (wr_name en hl) fun t l1 hp h1=>?_
 split
 ·rename_i hs
  exact wr_ok ⟨hp,fun h=>by rw [h]at hs;cases hs⟩ (gl_tail h1)
 ·exact wr_ok ⟨hp,fun _=>rfl⟩ h1
theorem wr_fields{r:Rc}(h:RX r)(l:List Tok)(hl:GL l):WR (AllP (Wf WT)) (fieldsP en r l):=by
 unfold fieldsP
 split
 ·exact wr_bind (wr_many _ _ (wr_def en true) _ _ hl) fun _ _ hp h1=>wr_bind (wr_skip en h1 _) fun _ _ _ h2=>wr_bind (h.ty _ h2) fun _ _ hq h3=>wr_ok (all_map hp fun a ha => .mk _ _ _ _ ha.1 hq) h3
 ·exact wr_ok .nil hl
theorem wr_typ{r:Rc}(h:RX r)(l:List Tok)(hl:GL l):WR WT (typP en r l):=by
 unfold typP
 have htl:=gl_tail hl
 split
 ·refine wr_bind (many_ne (wr_many _ _ (wr_expr en h.toRW) _ _ htl)) fun xs _ hp h1=>wr_bind (wr_skip en h1 _) fun _ _ _ h2=>wr_bind (h.ty _ h2) fun _ _ hq h3=>?_
  cases xs with
  | nil=>exact absurd rfl hp.2
  | cons x xs=>exact wr_ok (.arr _ _ _ _ hp.1 hq) h3
 ·split
  ·refine wr_bind (P:=Most WQ) ?_ fun bs l3 hb h3=>wr_bind (wr_many _ _ (wr_fields en h) _ _ h3) fun _ _ hf h4=>wr_bind (wr_skip en h4 _) fun _ _ _ h5=>wr_ok (.rcd _ _ _ hb (all_flatten hf)) h5
   split
   ·exact wr_bind (wr_qual en _ (gl_tail htl)) fun q _ hq h1=>wr_bind (wr_skip en h1 _) fun _ _ _ h2=>wr_ok (.inr ⟨q,rfl,hq⟩) h2
   ·exact wr_ok (.inl rfl) htl
  ·split
   ·exact wr_bind (wr_skip en htl _) fun _ _ _ h1=>wr_bind (h.ty _ h1) fun _ _ hq h2=>wr_ok (.ptr _ _ hq) h2
   ·split
    ·split
     ·exact wr_bind (wr_formals en h _ htl) fun _ _ hq h2=>wr_ok (.prc _ _ _ hq.1 hq.2) h2
     ·exact wr_ok (.prc _ _ _ .nil (.inl rfl)) htl
    ·exact wr_mono (wr_qual en l hl) fun _ h => .qual _ h
end Tr
namespace Tr
variable (en:Int)
inductive WS:St→Prop where
 | asg (d e:Ex) (p:Int) (hd:WE d) (h:Des d) (he:WE e):WS (.mk 1 [] [d,e] [] [] p)
 | call (d:Ex) (p:Int) (hd:WE d) (h:Des d):WS (.mk 2 [] [d] [] [] p)
 | cond (e:Ex) (es:List Ex) (bs:List (List St)) (p:Int) (he:AllP WE (e::es)) (hl:bs.length=es.length+1∨bs.length=es.length+2) (hb:AllP (AllP WS) bs):WS (.mk 3 [] (e::es) [] bs p)
 | cases (e:Ex) (ls:List (List Ex)) (bs:List (List St)) (p:Int) (he:WE e) (hl:bs.length=ls.length) (hn:∀ l∈ls,l ≠ []) (hls:AllP (AllP (WL WE)) ls) (hb:AllP (AllP WS) bs):WS (.mk 4 [] [e] ls bs p)
 | whil (e:Ex) (es:List Ex) (bs:List (List St)) (p:Int) (he:AllP WE (e::es)) (hl:bs.length=es.length+1) (hb:AllP (AllP WS) bs):WS (.mk 5 [] (e::es) [] bs p)
 | rept (e:Ex) (b:List St) (p:Int) (he:WE e) (hb:AllP WS b):WS (.mk 6 [] [e] [] [b] p)
 | loop (n:List UInt8) (es:List Ex) (b:List St) (p:Int) (hn:NM n) (hl:es.length=2∨es.length=3) (he:AllP WE es) (hb:AllP WS b):WS (.mk 7 n es [] [b] p)
structure RY(r:Rc):Prop extends RX r where
 st:∀ l,GL l→WR (AllP WS) (r.st l)
theorem wr_arms{r:Rc}(h:RY r)(w:List UInt8)(l:List Tok)(hl:GL l):WR (fun as=>AllP (fun x:Ex × List St=>WE x.1∧AllP WS x.2) as∧as ≠ []) (armsP en r w l):=
 many_ne (wr_many _ _ (fun l hl=>wr_bind (wr_expr en h.toRW l hl) fun _ _ hp h1=>wr_bind (wr_skip en h1 _) fun _ _ _ h2=>wr_bind (h.st _ h2) fun _ _ hq h3=>wr_ok ⟨hp,hq⟩ h3) _ _ hl)
inductive OptP{α:Type}(P:α→Prop):Option α→Prop where
 | none:OptP P none
 | some (a:α) (h:P a):OptP P (some a)
theorem all_filter{α:Type}{P:α→Prop}{l:List (Option α)}(h:AllP (OptP P) l):AllP P (l.filterMap id):=by
 induction h with
 | nil=>exact .nil
 | cons h t ih =>
  cases h with
  | none=>exact ih
  | some a h=>exact .cons h ih
theorem all_mem{α:Type}{P:α→Prop}{l:List α}(h:AllP P l):∀ a∈l,P a:=by
 induction h with
 | nil=>intro a h;cases h
 | cons h t ih =>
  intro a ha
  rcases List.mem_cons.1 ha with rfl|ha
  ·exact h
  ·exact ih a ha
theorem wr_stat{r:Rc}(h:RY r)(l:List Tok)(hl:GL l):WR (OptP WS) (statO en r l):=by
 unfold statO
 have htl:=gl_tail hl
 simp only
 split
 ·refine wr_bind (wr_design en h.toRW l hl) fun d l1 hp h1=>?_
  split
  ·exact wr_bind (wr_expr en h.toRW _ (gl_tail h1)) fun _ _ hq h2=>wr_ok (.some _ (.asg _ _ _ hp.1 hp.2 hq)) h2
  ·exact wr_ok (.some _ (.call _ _ hp.1 hp.2)) h1
 ·split
  ·refine wr_bind (wr_arms en h _ _ htl) fun as l1 hp h1=>wr_bind (P:=fun es=>AllP (AllP WS) es∧es.length≤1) ?_ fun es _ hq h2=>wr_bind (wr_skip en h2 _) fun _ _ _ h3=>?_
   ·split
    ·exact wr_bind (h.st _ (gl_tail h1)) fun _ _ hq h2=>wr_ok ⟨.cons hq .nil,by simp⟩ h2
    ·exact wr_ok ⟨.nil,by simp⟩ h1
   ·cases as with
    | nil=>exact absurd rfl hp.2
    | cons a as =>
     refine wr_ok (.some _ (.cond _ _ _ _ (all_map hp.1 fun _ hab=>hab.1) ?_ (all_append (all_map hp.1 fun _ hab=>hab.2) hq.1))) h3
     simp only [List.map_cons,List.length_append,List.length_cons,List.length_map]
     have:=hq.2
     omega
  ·split
   ·refine wr_bind (wr_arms en h _ _ htl) fun as l1 hp h1=>wr_bind (wr_skip en h1 _) fun _ _ _ h3=>?_
    cases as with
    | nil=>exact absurd rfl hp.2
    | cons a as=>exact wr_ok (.some _ (.whil _ _ _ _ (all_map hp.1 fun _ hab=>hab.1) (by simp) (all_map hp.1 fun _ hab=>hab.2))) h3
   ·split
    ·refine wr_bind (wr_expr en h.toRW _ htl) fun e l1 he h1=>wr_bind (wr_skip en h1 _) fun _ l2 _ h2=>wr_bind (wr_many (P:=OptP fun x:List Ex × List St=>(AllP (WL WE) x.1∧x.1 ≠ [])∧AllP WS x.2) _ _ (fun l hl=>?_) _ _ h2) fun cs l3 hc h3=>wr_bind (wr_skip en h3 _) fun _ _ _ h4=>?_
     ·split
      ·exact wr_ok .none hl
      ·exact wr_bind (many_ne (wr_labels _ (wr_expr en h.toRW) _ hl)) fun _ _ hp h1=>wr_bind (wr_skip en h1 _) fun _ _ _ h2=>wr_bind (h.st _ h2) fun _ _ hq h3=>wr_ok (.some _ ⟨hp,hq⟩) h3
     ·have hf:=all_filter hc
      refine wr_ok (.some _ (.cases _ _ _ _ he (by simp) (fun l hl=>?_) (all_map hf fun _ hab=>hab.1.1) (all_map hf fun _ hab=>hab.2))) h4
      obtain⟨x,hx,rfl⟩:=List.mem_map.1 hl
      exact(all_mem hf x hx).1.2
    ·split
     ·exact wr_bind (h.st _ htl) fun _ _ hp h1=>wr_bind (wr_skip en h1 _) fun _ _ _ h2=>wr_bind (wr_expr en h.toRW _ h2) fun _ _ hq h3=>wr_ok (.some _ (.rept _ _ _ hq hp)) h3
     ·split
      ·refine wr_bind (wr_name en htl) fun t _ ht h1=>wr_bind (wr_skip en h1 _) fun _ _ _ h2=>wr_bind (wr_expr en h.toRW _ h2) fun _ _ ha h3=>wr_bind (wr_skip en h3 _) fun _ _ _ h4=>wr_bind (wr_expr en h.toRW _ h4) fun _ l5 hc h5=>wr_bind (P:=fun ds=>AllP WE ds∧ds.length≤1) ?_ fun ds _ hd h6=>wr_bind (wr_skip en h6 _) fun _ _ _ h7=>wr_bind (h.st _ h7) fun _ _ hs h8=>wr_bind (wr_skip en h8 _) fun _ _ _ h9=>wr_ok (.some _ (.loop _ _ _ _ ht (by have:=hd.2;simp only [List.length_cons];omega) (.cons ha (.cons hc hd.1)) hs)) h9
       split
       ·exact wr_bind (wr_expr en h.toRW _ (gl_tail h5)) fun _ _ hq h2=>wr_ok ⟨.cons hq .nil,by simp⟩ h2
       ·exact wr_ok ⟨.nil,by simp⟩ h5
      ·exact wr_ok .none hl
theorem wr_stats{r:Rc}(h:RY r)(l:List Tok)(hl:GL l):WR (AllP WS) (statsP en r l):=
 wr_bind (wr_many _ _ (wr_stat en h) _ _ hl) fun _ _ hp h1=>wr_ok (all_filter hp) h1
theorem ry_pr:∀ n,RY (pr en n)
 | 0=>{ ex:=fun _ _=>wr_no _,fa:=fun _ _=>wr_no _,ty:=fun _ _=>wr_no _,op:=fun _ _=>wr_no _,st:=fun _ _=>wr_no _ }
 | n+1=>{ ex:=wr_expr en (ry_pr n).toRW,fa:=wr_factor en (ry_pr n).toRW,ty:=wr_typ en (ry_pr n).toRX,op:=wr_open en (ry_pr n).toRX,st:=wr_stats en (ry_pr n) }
/-! modules -/
inductive Wc(o:Bool):(List UInt8 × Bool × Ex × Int)→Prop where
 | mk (n:List UInt8) (b:Bool) (e:Ex) (p:Int) (hn:NM n) (hb:o=false→b=false) (h:WE e):Wc o (n,b,e,p)
inductive Wt(o:Bool):FT→Prop where
 | mk (n:List UInt8) (b:Bool) (t:Ty) (p:Int) (hn:NM n) (hb:o=false→b=false) (h:WT t):Wt o (n,b,t,p)
structure WDe(o:Bool)(d:De):Prop where
 consts:AllP (Wc o) d.consts
 types:AllP (Wt o) d.types
 vars:AllP (Wt o) d.vars
structure WPr(x:Pr):Prop where
 name:NM x.name
 params:AllP (Wf WO) x.params
 result:Most WQ x.result
 de:WDe false x.de
 body:AllP WS x.body
 ret:Most WE x.ret
structure WM(m:Mo):Prop where
 name:NM m.name
 imports:AllP (fun i:List UInt8 × List UInt8 × Int=>NM i.1∧NM i.2.1) m.imports
 de:WDe true m.de
 procs:AllP WPr m.procs
 body:AllP WS m.body
theorem wr_const{r:Rc}(h:RY r)(o:Bool)(l:List Tok)(hl:GL l):WR (Wc o) (constP en r o l):=
 wr_bind (wr_def en o l hl) fun _ _ ht h1=>wr_bind (wr_skip en h1 _) fun _ _ _ h2=>wr_bind (wr_expr en h.toRW _ h2) fun _ _ hp h3=>wr_bind (wr_skip en h3 _) fun _ _ _ h4=>wr_ok (.mk _ _ _ _ ht.1 ht.2 hp) h4
theorem wr_type{r:Rc}(h:RY r)(o:Bool)(l:List Tok)(hl:GL l):WR (Wt o) (typeP en r o l):=
 wr_bind (wr_def en o l hl) fun _ _ ht h1=>wr_bind (wr_skip en h1 _) fun _ _ _ h2=>wr_bind (wr_typ en h.toRX _ h2) fun _ _ hp h3=>wr_bind (wr_skip en h3 _) fun _ _ _ h4=>wr_ok (.mk _ _ _ _ ht.1 ht.2 hp) h4
theorem wr_var{r:Rc}(h:RY r)(o:Bool)(l:List Tok)(hl:GL l):WR (AllP (Wt o)) (varP en r o l):=
 wr_bind (wr_many _ _ (wr_def en o) _ _ hl) fun _ _ ht h1=>wr_bind (wr_skip en h1 _) fun _ _ _ h2=>wr_bind (wr_typ en h.toRX _ h2) fun _ _ hp h3=>wr_bind (wr_skip en h3 _) fun _ _ _ h4=>wr_ok (all_map ht fun _ ha => .mk _ _ _ _ ha.1 ha.2 hp) h4
theorem wr_decls{r:Rc}(h:RY r)(o:Bool)(l:List Tok)(hl:GL l):WR (WDe o) (declsP en r o l):=by
 refine wr_bind (P:=AllP (Wc o)) ?_ fun _ l1 hc h1=>wr_bind (P:=AllP (Wt o)) ?_ fun _ l2 ht h2=>wr_bind (P:=AllP (AllP (Wt o))) ?_ fun _ l3 hv h3=>wr_ok ⟨hc,ht,all_flatten hv⟩ h3
 ·split
  ·exact wr_while _ (wr_const en h o) _ _ (gl_tail hl)
  ·exact wr_ok .nil hl
 ·split
  ·exact wr_while _ (wr_type en h o) _ _ (gl_tail h1)
  ·exact wr_ok .nil h1
 ·split
  ·exact wr_while _ (wr_var en h o) _ _ (gl_tail h2)
  ·exact wr_ok .nil h2
theorem wr_ends(w:List UInt8)(l:List Tok)(hl:GL l):WR (fun _=>True) (endsP en w l):=by
 refine wr_bind (wr_skip en hl _) fun _ l1 _ h1=>?_
 split
 ·exact wr_ok trivial (gl_tail h1)
 ·exact wr_no _
theorem wr_proc{r:Rc}(h:RY r)(l:List Tok)(hl:GL l):WR WPr (procP en r l):=by
 refine wr_bind (wr_skip en hl _) fun _ l1 _ h1=>wr_bind (wr_def en true _ h1) fun t l2 ht h2=>wr_bind (P:=fun x=>AllP (Wf WO) x.1∧Most WQ x.2) ?_ fun f l3 hf h3=>wr_bind (wr_skip en h3 _) fun _ l4 _ h4=>wr_bind (wr_decls en h false _ h4) fun d l5 hd h5=>wr_bind (P:=AllP WS) ?_ fun _ l6 hs h6=>wr_bind (P:=Most WE) ?_ fun _ l7 hr h7=>wr_bind (wr_ends en _ _ h7) fun _ _ _ h8=>wr_ok ⟨ht.1,hf.1,hf.2,hd,hs,hr⟩ h8
 ·split
  ·exact wr_formals en h.toRX _ h2
  ·exact wr_ok ⟨.nil,.inl rfl⟩ h2
 ·split
  ·exact wr_stats en h _ (gl_tail h5)
  ·exact wr_ok .nil h5
 ·split
  ·exact wr_bind (wr_expr en h.toRW _ (gl_tail h6)) fun e _ hq h2=>wr_ok (.inr ⟨e,rfl,hq⟩) h2
  ·exact wr_ok (.inl rfl) h6
theorem wr_procs{r:Rc}(h:RY r):∀ n l,GL l→WR (AllP WPr) (procsP en r n l):=by
 intro n
 induction n with
 | zero=>intro l _;exact wr_no _
 | succ n ih =>
  intro l hl
  unfold procsP
  split
  ·exact wr_bind (wr_proc en h _ hl) fun _ _ hp h1=>wr_bind (wr_skip en h1 _) fun _ _ _ h2=>wr_bind (ih _ h2) fun _ _ hq h3=>wr_ok (.cons hp hq) h3
  ·exact wr_ok .nil hl
theorem wr_import(l:List Tok)(hl:GL l):WR (fun i=>NM i.1∧NM i.2.1) (importP en l):=by
 refine wr_bind (wr_name en hl) fun a l1 hp h1=>?_
 split
 ·exact wr_bind (wr_name en (gl_tail h1)) fun c l2 hq h2=>wr_ok ⟨hp,hq⟩ h2
 ·exact wr_ok ⟨hp,hp⟩ h1
theorem wr_module{r:Rc}(h:RY r)(l:List Tok)(hl:GL l):WR WM (moduleP en r l):=by
 refine wr_bind (wr_skip en hl _) fun _ l1 _ h1=>wr_bind (wr_name en h1) fun t l2 ht h2=>wr_bind (wr_skip en h2 _) fun _ l3 _ h3=>wr_bind (P:=AllP fun i:List UInt8 × List UInt8 × Int=>NM i.1∧NM i.2.1) ?_ fun _ l5 hi h5=>wr_bind (wr_decls en h true _ h5) fun _ l6 hd h6=>wr_bind (wr_procs en h _ _ h6) fun _ l7 hp h7=>wr_bind (P:=AllP WS) ?_ fun _ l8 hs h8=>wr_bind (wr_ends en _ _ h8) fun _ _ _ h9=>wr_bind (wr_skip en h9 _) fun _ _ _ h10=>wr_ok ⟨ht,hi,hd,hp,hs⟩ h10
 ·split
  ·exact wr_bind (wr_many _ _ (wr_import en) _ _ (gl_tail h3)) fun _ _ hp h4=>wr_bind (wr_skip en h4 _) fun _ _ _ h5=>wr_ok hp h5
  ·exact wr_ok .nil h3
 ·split
  ·exact wr_stats en h _ (gl_tail h7)
  ·exact wr_ok .nil h7
theorem parsed_good{l:List Tok}(hl:GL l){m:Mo}(h:parsedP en l=.ok m):WM m:=by
 have hr:=wr_module en (ry_pr en (l.length+1)) l hl
 unfold parsedP at h
 split at h
 ·rename_i m1 l1 hm
  split at h
  ·cases h
   rw [hm]at hr
   exact hr.1
  ·cases h
 ·cases h
end Tr
namespace Tr
theorem tok_good{c:UInt8}{t:List UInt8}{kd n:Int}{w:List UInt8}{m:Nat}(h:Tk.tokF (c::t)=.ok (kd,w,n,m)):Tk.Good kd w n:=by
 unfold Tk.tokF at h
 simp only at h
 split at h
 ·rename_i hc
  obtain⟨h1,h2,h3,h4⟩:=Tk.word_kind h
  subst h1
  have hi:Tk.inside c=true:=by simp [Tk.inside,hc]
  have hw:w=c::t.takeWhile Tk.inside:=by rw [h2,List.takeWhile_cons,if_pos hi]
  have hall:w.all Tk.inside=true:=by
   rw [h2,List.all_eq_true]
   intro x hx
   exact List.all_eq_true.1 (List.all_takeWhile ..) x hx
  rcases h4 with⟨rfl,hk⟩|⟨rfl,hk,hl⟩
  ·exact .inr (.inl ⟨rfl,rfl,hk⟩)
  ·refine .inl ⟨rfl,rfl,?_,hk⟩
   unfold Tk.word
   rw [hall,decide_eq_true hl,hw]
   simp [hc]
 ·split at h
  ·obtain⟨h1,h2⟩:=Tk.num_kind h
   subst h2
   unfold Tk.numT at h
   simp only at h
   split at h
   ·split at h
    ·rename_i hv
     cases h
     have:=Sp.sgn_bd (Tk.val 16 ((c::t).takeWhile Tk.hexa)) (by omega) (by omega)
     exact .inr (.inr (.inl ⟨rfl,rfl,this.1,this.2⟩))
    ·cases h
   ·split at h
    ·split at h
     ·rename_i hv
      cases h
      exact .inr (.inr (.inr (.inl ⟨rfl,rfl,by omega,by omega⟩)))
     ·cases h
    ·split at h
     ·cases h
     ·split at h
      ·rename_i hv
       cases h
       exact .inr (.inr (.inl ⟨rfl,rfl,by omega,by omega⟩))
      ·cases h
  ·split at h
   ·obtain⟨h1,h2,h3,h4,h5⟩:=Tk.text_kind h
    subst h1 h2
    refine .inr (.inr (.inr (.inr (.inl ⟨rfl,rfl,h5,fun x hx=>?_⟩))))
    rw [h3]at hx
    exact List.all_eq_true.1 (List.all_takeWhile ..) x hx
   ·obtain⟨h1,h2,h3⟩:=Tk.sign_kind h
    subst h1 h2
    exact .inr (.inr (.inr (.inr (.inr ⟨rfl,rfl,h3⟩))))
theorem lex_facts(N:Nat):∀(l:List UInt8) (p k:Nat) (r:List Tk.Tok),l.length≤N→Tk.lexF l p k=.ok r→GL r∧r.Pairwise (fun a b=>a.2.2.2<b.2.2.2)∧∀ t∈r,(p:Int)≤t.2.2.2∧t.2.2.2<(p:Int)+(l.length:Int):=by
 induction N with
 | zero =>
  intro l p k r hl h
  have:=List.eq_nil_of_length_eq_zero (Nat.le_zero.1 hl)
  subst this
  rw [Tk.lexF_nil]at h
  cases h
  exact⟨.nil,List.Pairwise.nil,fun t ht=>by cases ht⟩
 | succ N ih =>
  intro l p k r hl h
  match l,hl,h with
  | [],_,h =>
   rw [Tk.lexF_nil]at h
   cases h
   exact⟨.nil,List.Pairwise.nil,fun t ht=>by cases ht⟩
  | c::t,hl,h =>
   simp only [List.length_cons]at hl
   cases hb:Tk.blank c with
   | true =>
    rw [Tk.lexF_blank p k hb]at h
    obtain⟨h1,h2,h3⟩:=ih t (p+1) k r (by omega) h
    exact⟨h1,h2,fun x hx=>by have:=h3 x hx;simp only [List.length_cons];omega⟩
   | false =>
    cases ho:Tk.opens (c::t)with
    | true =>
     cases hc:Tk.cmt (c::t) 0 with
     | none=>rw [Tk.lexF_cmt_none p k hb ho hc]at h;cases h
     | some n =>
      rw [Tk.lexF_cmt p k hb ho hc]at h
      have hn:=Tk.cmt_len _ _ _ hc
      simp only [List.length_cons]at hn
      obtain⟨h1,h2,h3⟩:=ih _ (p+n) k r (by simp only [List.length_drop,List.length_cons];omega) h
      exact⟨h1,h2,fun x hx=>by have:=h3 x hx;simp only [List.length_drop,List.length_cons]at this ⊢;omega⟩
    | false =>
     cases ht:Tk.tokF (c::t)with
     | error e=>rw [Tk.lexF_err p k hb ho ht]at h;cases h
     | ok v =>
      obtain⟨kd,w,n,m⟩:=v
      rw [Tk.lexF_tok p k hb ho ht]at h
      split at h
      ·cases h
      ·split at h
       ·cases h
       ·rename_i q hq
        cases h
        obtain⟨m0,m1⟩:=Tk.tokF_len ht
        simp only [List.length_cons]at m1
        obtain⟨h1,h2,h3⟩:=ih _ (p+m) (k+1) q (by simp only [List.length_drop,List.length_cons];omega) hq
        refine⟨.cons (tok_good ht) h1,List.pairwise_cons.2 ⟨fun x hx=>?_,h2⟩,fun x hx=>?_⟩
        ·have:=(h3 x hx).1
         simp only
         omega
        ·rcases List.mem_cons.1 hx with rfl|hx
         ·simp only [List.length_cons];omega
         ·have:=h3 x hx
          simp only [List.length_drop,List.length_cons]at this ⊢
          omega
theorem lex_good{s:List UInt8}{r:List Tk.Tok}(h:Tk.lexF s 0 0=.ok r):GL r∧Ris (s.length:Int) r:=by
 obtain⟨h1,h2,h3⟩:=lex_facts s.length s 0 0 r (Nat.le_refl _) h
 exact⟨h1,h2,fun t ht=>by have:=(h3 t ht).2;omega⟩
end Tr
namespace Tr
structure Wk where
 left:Int
 deepest:Int
 long:Bool
def nodeW(d:Int)(w:Wk):Wk:=⟨RowKit.wrap64 (w.left - 1),if w.deepest<d then d else w.deepest,w.long⟩
def up(d:Int):Int:=RowKit.wrap64 (d+1)
def listW(n:Nat)(w:Wk):Wk:=⟨w.left,w.deepest,w.long || decide (64<n)⟩
def listsW:List Nat→Wk→Wk
 | [],w=>w
 | n::ns,w=>listsW ns (listW n w)
theorem lists_app(xs:List Nat)(n:Nat)(w:Wk):listsW (xs++[n]) w=listW n (listsW xs w):=by
 induction xs generalizing w with
 | nil=>rfl
 | cons x xs ih=>exact ih (listW x w)
mutual
def exW:Ex→Int→Wk→Wk
 | .mk _ _ _ _ as _,d,w=>exsW as (up d) (listW as.length w)
def exsW:List Ex→Int→Wk→Wk
 | [],_,w=>w
 | e::es,d,w=>if (nodeW d w).left<0 then nodeW d w else exsW es d (exW e d (nodeW d w))
end
mutual
def tyW:Ty→Int→Wk→Wk
 | .mk _ _ _ ls el ba fs ps rs _,d,w =>
  tysW rs (up d) (fdsW ps (up d) (fdsW fs (up d) (tysW el (up d) (tysW ba (up d) (exsW ls (up d)
   (listW rs.length (listW ps.length (listW fs.length (listW ba.length (listW el.length (listW ls.length w)))))))))))
def tysW:List Ty→Int→Wk→Wk
 | [],_,w=>w
 | t::ts,d,w=>if (nodeW d w).left<0 then nodeW d w else tysW ts d (tyW t d (nodeW d w))
def fdsW:List (List UInt8 × Bool × Ty × Int)→Int→Wk→Wk
 | [],_,w=>w
 | (_,_,t,_)::fs,d,w=>fdsW fs d (if (nodeW d w).left<0 then nodeW d w else tyW t d (nodeW d w))
end
def labW:List (List Ex)→Int→Wk→Wk
 | [],_,w=>w
 | l::ls,d,w=>labW ls d (exsW l d (listW l.length w))
mutual
def stW:St→Int→Wk→Wk
 | .mk _ _ es ls bs _,d,w=>blsW bs (up d) (labW ls (up d) (exsW es (up d) (listW es.length (listW bs.length (listW ls.length w)))))
def stsL:List St→Int→Wk→Wk
 | [],_,w=>w
 | s::ss,d,w=>if (nodeW d w).left<0 then nodeW d w else stsL ss d (stW s d (nodeW d w))
def blsW:List (List St)→Int→Wk→Wk
 | [],_,w=>w
 | b::bs,d,w=>blsW bs d (stsL b d (listW b.length w))
end
def stsW(l:List St)(d:Int)(w:Wk):Wk:=stsL l d (listW l.length w)
def cnsW:List (List UInt8 × Bool × Ex × Int)→Wk→Wk
 | [],w=>w
 | (_,_,e,_)::cs,w=>cnsW cs (exsW [e] 1 w)
def declsW(x:De)(w:Wk):Wk:=fdsW x.vars 1 (fdsW x.types 1 (cnsW x.consts (listW x.vars.length (listW x.types.length (listW x.consts.length w)))))
def procW(p:Pr)(w:Wk):Wk:=exsW p.ret 1 (stsW p.body 1 (declsW p.de (tysW p.result 1 (fdsW p.params 1 (listW p.params.length w)))))
def procsW:List Pr→Wk→Wk
 | [],w=>w
 | p::ps,w=>procsW ps (procW p w)
def moW(m:Mo)(w:Wk):Wk:=stsW m.body 1 (procsW m.procs (declsW m.de (listW m.procs.length (listW m.imports.length w))))
def walkW(m:Mo):Wk:=moW m ⟨4000,0,false⟩
def limW(m:Mo):Int:=if (walkW m).long=true∨(walkW m).left<0 then 3 else if 64<(walkW m).deepest then 4 else 0
end Tr
end Go.Proofs.YtlhmkfcbldghfaaGreatDoor
