/- Whether trees are alike,with places or without: plainly. Laws of operations that tell what of the world stays. No program in sight. Conditions: none. Modules that are alike but for places are so for the document's Same too;plain. No program in sight. Conditions: none. -/
import Derived.Test.YtlhmkfcbldghfaaGreatDoorFmX
import Derived.Test.YtlhmkfcbldghfaaGreatDoorTrB
namespace Go.Proofs.YtlhmkfcbldghfaaGreatDoor
set_option linter.all false
open Go.RowKit
namespace Tr
mutual
def exS (pl : Bool) : Ex → Ex → Bool
 | .mk k n t o xs p,.mk k' n' t' o' xs' p' => !(k != k') && !(n != n') && !(t != t') && !(o != o') && !(pl && (p != p')) && exsS pl xs xs'
def exsS (pl : Bool) : List Ex → List Ex → Bool
 | [],[] => true
 | e :: es,f :: fs => exS pl e f && exsS pl es fs
 | [],_ :: _ => false
 | _ :: _,[] => false
end
mutual
def tyS (pl : Bool) : Ty → Ty → Bool
 | .mk k m n ls el ba fs ps rs p,.mk k' m' n' ls' el' ba' fs' ps' rs' p' =>
  !(k != k') && !(m != m') && !(n != n') && !(pl && (p != p')) && exsS pl ls ls' && tysS pl el el' && tysS pl ba ba' && fdsS pl ps ps' && tysS pl rs rs' && fdsS pl fs fs'
def tysS (pl : Bool) : List Ty → List Ty → Bool
 | [],[] => true
 | e :: es,f :: fs => tyS pl e f && tysS pl es fs
 | [],_ :: _ => false
 | _ :: _,[] => false
def fdsS (pl : Bool) : List (List UInt8 × Bool × Ty × Int) → List (List UInt8 × Bool × Ty × Int) → Bool
 | [],[] => true
 | (n,b,t,p) :: es,(n',b',t',p') :: fs => !(n != n') && !(b != b') && !(pl && (p != p')) && tyS pl t t' && fdsS pl es fs
 | [],_ :: _ => false
 | _ :: _,[] => false
end
def labS (pl : Bool) : List (List Ex) → List (List Ex) → Bool
 | [],[] => true
 | e :: es,f :: fs => exsS pl e f && labS pl es fs
 | [],_ :: _ => false
 | _ :: _,[] => false
mutual
def stS (pl : Bool) : St → St → Bool
 | .mk k n es ls bs p,.mk k' n' es' ls' bs' p' => !(k != k') && !(n != n') && !(pl && (p != p')) && exsS pl es es' && labS pl ls ls' && blsS pl bs bs'
def stsS (pl : Bool) : List St → List St → Bool
 | [],[] => true
 | e :: es,f :: fs => stS pl e f && stsS pl es fs
 | [],_ :: _ => false
 | _ :: _,[] => false
def blsS (pl : Bool) : List (List St) → List (List St) → Bool
 | [],[] => true
 | e :: es,f :: fs => stsS pl e f && blsS pl es fs
 | [],_ :: _ => false
 | _ :: _,[] => false
end
def cnsS (pl : Bool) : List (List UInt8 × Bool × Ex × Int) → List (List UInt8 × Bool × Ex × Int) → Bool
 | [],[] => true
 | (n,b,t,p) :: es,(n',b',t',p') :: fs => !(n != n') && !(b != b') && !(pl && (p != p')) && exS pl t t' && cnsS pl es fs
 | [],_ :: _ => false
 | _ :: _,[] => false
def deS (pl : Bool) (a b : De) : Bool:=cnsS pl a.consts b.consts && fdsS pl a.types b.types && fdsS pl a.vars b.vars
def prS (pl : Bool) (a b : Pr) : Bool:=!(a.name != b.name) && !(a.out != b.out) && !(pl && (a.pos != b.pos)) && fdsS pl a.params b.params && tysS pl a.result b.result && deS pl a.de b.de && stsS pl a.body b.body && exsS pl a.ret b.ret
def prsS (pl : Bool) : List Pr → List Pr → Bool
 | [],[] => true
 | e :: es,f :: fs => prS pl e f && prsS pl es fs
 | [],_ :: _ => false
 | _ :: _,[] => false
def imS (pl : Bool) : List (List UInt8 × List UInt8 × Int) → List (List UInt8 × List UInt8 × Int) → Bool
 | [],[] => true
 | (a,n,p) :: es,(a',n',p') :: fs => !(a != a') && !(n != n') && !(pl && (p != p')) && imS pl es fs
 | [],_ :: _ => false
 | _ :: _,[] => false
def moS (pl : Bool) (a b : Mo) : Bool:=!(a.name != b.name) && !(pl && (a.pos != b.pos)) && deS pl a.de b.de && stsS pl a.body b.body && imS pl a.imports b.imports && prsS pl a.procs b.procs
theorem exsS_len {pl : Bool} : ∀ {xs ys : List Ex},xs.length ≠ ys.length → exsS pl xs ys = false
 | [],[],h => absurd rfl h
 | [],_ :: _,_ => by unfold exsS;rfl
 | _ :: _,[],_ => by unfold exsS;rfl
 | x :: xs,y :: ys,h => by unfold exsS;rw [exsS_len (by simpa using h)];simp
theorem tysS_len {pl : Bool} : ∀ {xs ys : List Ty},xs.length ≠ ys.length → tysS pl xs ys = false
 | [],[],h => absurd rfl h
 | [],_ :: _,_ => by unfold tysS;rfl
 | _ :: _,[],_ => by unfold tysS;rfl
 | x :: xs,y :: ys,h => by unfold tysS;rw [tysS_len (by simpa using h)];simp
theorem fdsS_len {pl : Bool} : ∀ {xs ys : List (List UInt8 × Bool × Ty × Int)},xs.length ≠ ys.length → fdsS pl xs ys = false
 | [],[],h => absurd rfl h
 | [],_ :: _,_ => by unfold fdsS;rfl
 | _ :: _,[],_ => by unfold fdsS;rfl
 | x :: xs,y :: ys,h => by unfold fdsS;rw [fdsS_len (by simpa using h)];simp
theorem labS_len {pl : Bool} : ∀ {xs ys : List (List Ex)},xs.length ≠ ys.length → labS pl xs ys = false
 | [],[],h => absurd rfl h
 | [],_ :: _,_ => by unfold labS;rfl
 | _ :: _,[],_ => by unfold labS;rfl
 | x :: xs,y :: ys,h => by unfold labS;rw [labS_len (by simpa using h)];simp
theorem stsS_len {pl : Bool} : ∀ {xs ys : List St},xs.length ≠ ys.length → stsS pl xs ys = false
 | [],[],h => absurd rfl h
 | [],_ :: _,_ => by unfold stsS;rfl
 | _ :: _,[],_ => by unfold stsS;rfl
 | x :: xs,y :: ys,h => by unfold stsS;rw [stsS_len (by simpa using h)];simp
theorem blsS_len {pl : Bool} : ∀ {xs ys : List (List St)},xs.length ≠ ys.length → blsS pl xs ys = false
 | [],[],h => absurd rfl h
 | [],_ :: _,_ => by unfold blsS;rfl
 | _ :: _,[],_ => by unfold blsS;rfl
 | x :: xs,y :: ys,h => by unfold blsS;rw [blsS_len (by simpa using h)];simp
theorem cnsS_len {pl : Bool} : ∀ {xs ys : List (List UInt8 × Bool × Ex × Int)},xs.length ≠ ys.length → cnsS pl xs ys = false
 | [],[],h => absurd rfl h
 | [],_ :: _,_ => by unfold cnsS;rfl
 | _ :: _,[],_ => by unfold cnsS;rfl
 | x :: xs,y :: ys,h => by unfold cnsS;rw [cnsS_len (by simpa using h)];simp
theorem prsS_len {pl : Bool} : ∀ {xs ys : List Pr},xs.length ≠ ys.length → prsS pl xs ys = false
 | [],[],h => absurd rfl h
 | [],_ :: _,_ => by unfold prsS;rfl
 | _ :: _,[],_ => by unfold prsS;rfl
 | x :: xs,y :: ys,h => by unfold prsS;rw [prsS_len (by simpa using h)];simp
theorem imS_len {pl : Bool} : ∀ {xs ys : List (List UInt8 × List UInt8 × Int)},xs.length ≠ ys.length → imS pl xs ys = false
 | [],[],h => absurd rfl h
 | [],_ :: _,_ => by unfold imS;rfl
 | _ :: _,[],_ => by unfold imS;rfl
 | x :: xs,y :: ys,h => by unfold imS;rw [imS_len (by simpa using h)];simp
end Tr
namespace Fr
open Da Tr
section
variable {P : Program} {Q : Exit → Act → World → Prop} {K : Act → World → Prop} {a : Act} {w W X : World} {g : Option Nat} {Kp : World → Prop} {R : List RI} {Ds : List (Value × D)} {o : Oper}
theorem ow_allocB (h : Fm w g Kp W R Ds) {T : TypeId} {z : List Value} {bytes : Nat} (hT : TyIs P T z bytes) (ho : o.op = .alloc T)
  (hK : ∀ (b : Nat) (W' : World),W.heap.size ≤ b → Below W.heap.size W W' → Fm w g Kp W' (.blk b z :: R) Ds → K (a.put o.dst (.pointer (some ⟨b,0,none⟩))) W') : o.wp P a W K Q:=by
 obtain ⟨i,v,hi,hz,hv,_,_⟩:=hT.info
 unfold Oper.wp execOp
 simp only [ho,Sem.run_bind,Instr.alloc,zeroValue,typeInfo,newVar,newRow]
 simp [hi,hz,hv]
 exact hK _ _ (Nat.le_refl _) ((Below.refl _ _).alloc (Nat.le_refl _) _) (h.alloc z T)
theorem below_set {b : Nat} {W' : World} (h : Below W.heap.size W X) (hg : X.grownBy W' (some b)) (hb : W.heap.size ≤ b) : Below W.heap.size W W':=
 ⟨hg.os.trans h.os,hg.tape.trans h.tape,hg.output.trans h.output,Nat.le_trans h.size hg.size,fun k hk =>
  (hg.block k (Nat.lt_of_lt_of_le hk h.size) (fun e => by simp at e;omega)).trans (h.block k hk)⟩
theorem Fm.rowAt (h : Fm w g Kp W R Ds) {m : Nat} {b off : Nat} {n c size : Nat} {rows : List (List D)} (hd : Ds[m]? = some (.slice (some ⟨b,off,none⟩) n c,.list size rows)) (i : Nat) {row : List D} (hi : rows[i]? = some row) :
  ∃ cs : List Value,W.rangeAt b (off + i * size) cs ∧ Row W (Off w.heap.size R) cs row ∧ b < W.heap.size:=by
 have hD:=h.da m _ _ hd
 generalize hv : Value.slice (some ⟨b,off,none⟩) n c = v at hD
 generalize hdd : D.list size rows = dd at hD
 cases hD with
 | int z => cases hdd
 | bool b => cases hdd
 | str l => cases hdd
 | nil p c sz hm => cases hdd;simp at hi
 | list b' off' c' sz rws f hne hB hlt hc hm hrl hcell his =>
  cases hdd
  simp only [Value.slice.injEq,Option.some.injEq,Addr.mk.injEq] at hv
  obtain ⟨⟨rfl,ho',_⟩,_,_⟩:=hv
  let cs:=(List.range row.length).map fun j => f i j
  have hcs : ∀ j d,row[j]? = some d → cs[j]? = some (f i j):=fun j d hj => by
   have:=(List.getElem?_eq_some_iff.1 hj).1
   simp [cs,this]
  refine ⟨cs,fun j v hv => ?_,⟨by simp [cs],fun j d hj => ⟨_,hcs j d hj,his i row j d hi hj⟩⟩,hlt⟩
  have hj : j < row.length:=by have:=(List.getElem?_eq_some_iff.1 hv).1;simpa [cs] using this
  have h1:=hcs j row[j] (by simp [hj])
  rw [h1] at hv
  simp only [Option.some.injEq] at hv
  have h2:=hcell i row j row[j] hi (by simp [hj])
  rw [← hv,ho',← h2,Nat.add_assoc]
theorem exec_row {T : TypeId} {x : Operand} (ho : o.op = .load T x) {b ad : Nat} (hx : a.eval x = .pointer (some ⟨b,ad,none⟩)) {cs : List Value} (hc : W.rangeAt b ad cs) (hb : Below W.heap.size W X) (hlt : b < W.heap.size)
  {d : TypeDesc} (hu : P.underlying T = some d) (hrow : d.isRow = true) {z : List Value} {bytes : Nat} (hT : TyIs P T z bytes) (hz : cs.length = z.length) : (execOp a.eval o).run P X = .ok (.value (.agg cs.toArray)) X:=by
 obtain ⟨ti,tv,hti,_,_,hts,_⟩:=hT.info
 have hc2 : X.rangeAt b ad cs:=fun j v hv => (hb.cell (p:=⟨b,ad + j,none⟩) hlt).trans (hc j v hv)
 unfold execOp
 simp only [ho,hx,Instr.loadAt,Instr.sureAddr,Sem.run_bind,Sem.run_pure,Result.andThen_ok,run_loadVar_mid X b ad T cs d hc2 hu hrow (by rw [hti];simp [hts,hz])]
end
end Fr
namespace Tr
mutual
theorem exS_al : ∀ (e f : Ex),SE e f → exS false e f = true
 | .mk kd n t o xa p,f,h => by
  cases h with
  | mk _ _ _ _ _ bs _ q h => unfold exS;rw [exsS_al xa bs h];simp
theorem exsS_al : ∀ (l k : List Ex),Al SE l k → exsS false l k = true
 | [],k,h => by cases h;unfold exsS;rfl
 | e :: es,k,h => by
  cases h with
  | cons h1 h2 => unfold exsS;rw [exS_al e _ h1,exsS_al es _ h2];rfl
end
mutual
theorem tyS_al : ∀ (e f : Ty),ST e f → tyS false e f = true
 | .mk kd m n ls el bs fs ps rs p,f,h => by
  cases h with
  | mk _ _ _ _ ls' _ el' _ bs' _ fs' _ ps' _ rs' _ q h1 h2 h3 h4 h5 h6 =>
   unfold tyS
   rw [exsS_al ls ls' h1,tysS_al el el' h2,tysS_al bs bs' h3,fdsS_al fs fs' h4,fdsS_al ps ps' h5,tysS_al rs rs' h6]
   simp
theorem tysS_al : ∀ (l k : List Ty),Al ST l k → tysS false l k = true
 | [],k,h => by cases h;unfold tysS;rfl
 | e :: es,k,h => by
  cases h with
  | cons h1 h2 => unfold tysS;rw [tyS_al e _ h1,tysS_al es _ h2];rfl
theorem fdsS_al : ∀ (l k : List (List UInt8 × Bool × Ty × Int)),Al (Fd ST) l k → fdsS false l k = true
 | [],k,h => by cases h;unfold fdsS;rfl
 | (n,b,t,p) :: es,k,h => by
  cases h with
  | cons h1 h2 =>
   cases h1 with
   | mk _ _ _ u _ q h1 => unfold fdsS;rw [tyS_al t u h1,fdsS_al es _ h2];simp
end
theorem labS_al : ∀ (l k : List (List Ex)),Al (Al SE) l k → labS false l k = true
 | [],k,h => by cases h;unfold labS;rfl
 | e :: es,k,h => by
  cases h with
  | cons h1 h2 => unfold labS;rw [exsS_al e _ h1,labS_al es _ h2];rfl
mutual
theorem stS_al : ∀ (e f : St),SS e f → stS false e f = true
 | .mk kd n es ls bs p,f,h => by
  cases h with
  | mk _ _ _ es' _ ls' _ bs' _ q h1 h2 h3 => unfold stS;rw [exsS_al es es' h1,labS_al ls ls' h2,blsS_al bs bs' h3];simp
theorem stsS_al : ∀ (l k : List St),Al SS l k → stsS false l k = true
 | [],k,h => by cases h;unfold stsS;rfl
 | e :: es,k,h => by
  cases h with
  | cons h1 h2 => unfold stsS;rw [stS_al e _ h1,stsS_al es _ h2];rfl
theorem blsS_al : ∀ (l k : List (List St)),Al (Al SS) l k → blsS false l k = true
 | [],k,h => by cases h;unfold blsS;rfl
 | e :: es,k,h => by
  cases h with
  | cons h1 h2 => unfold blsS;rw [stsS_al e _ h1,blsS_al es _ h2];rfl
end
theorem cnsS_al : ∀ (l k : List (List UInt8 × Bool × Ex × Int)),Al FC l k → cnsS false l k = true
 | [],k,h => by cases h;unfold cnsS;rfl
 | (n,b,t,p) :: es,k,h => by
  cases h with
  | cons h1 h2 =>
   cases h1 with
   | mk _ _ _ u _ q h1 => unfold cnsS;rw [exS_al t u h1,cnsS_al es _ h2];simp
theorem deS_al {x y : De} (h : SD x y) : deS false x y = true:=by
 unfold deS;rw [cnsS_al _ _ h.consts,fdsS_al _ _ h.types,fdsS_al _ _ h.vars];rfl
theorem prS_al {x y : Pr} (h : SPr x y) : prS false x y = true:=by
 unfold prS;rw [h.name,h.out,fdsS_al _ _ h.params,tysS_al _ _ h.result,deS_al h.de,stsS_al _ _ h.body,exsS_al _ _ h.ret];simp
theorem prsS_al : ∀ (l k : List Pr),Al SPr l k → prsS false l k = true
 | [],k,h => by cases h;unfold prsS;rfl
 | e :: es,k,h => by
  cases h with
  | cons h1 h2 => unfold prsS;rw [prS_al h1,prsS_al es _ h2];rfl
theorem imS_al : ∀ (l k : List (List UInt8 × List UInt8 × Int)),Al SI l k → imS false l k = true
 | [],k,h => by cases h;unfold imS;rfl
 | (a,n,p) :: es,k,h => by
  cases h with
  | @cons _ b _ _ h1 h2 =>
   obtain ⟨a',n',p'⟩:=b
   obtain ⟨h3,h4⟩:=h1
   simp only at h3 h4
   subst h3;subst h4
   unfold imS;rw [imS_al es _ h2];simp
theorem moS_al {x y : Mo} (h : SM x y) : moS false x y = true:=by
 unfold moS;rw [h.name,deS_al h.de,stsS_al _ _ h.body,imS_al _ _ h.imports,prsS_al _ _ h.procs];simp
end Tr
end Go.Proofs.YtlhmkfcbldghfaaGreatDoor
