/- An argument that is a command,opened. Conditions: none. -/
import Derived.ProofKit
import Derived.OpenShut
import Derived.ShutString
import Derived.Lib.SmallJoins
import Derived.Deep.Slices
import Derived.Deep.Fields
import Derived.Test.YthkegfdijohpaaaGreatDoorProg
import Derived.Test.YthkegfdijohpaaaGreatDoorOpen2W
namespace Go.Proofs.YthkegfdijohpaaaGreatDoor
set_option linter.all false
open Go.ChangeShapes Go.WideShapes Go.ChangeAt Go.RowKit Go.Joins Go.Deep
namespace Op
section
variable {H:Type} {enc:TypeId × Value→H} {P:Program} {w:World} {base:Nat} {spare:Nat→Bool} {held:Bool}
def flds(P:Program)(t:TypeId):List (TypeId × Nat × Nat):=match P.underlying t with|some (.struct fs)=>fs.toList.map fun f=>(f.type,f.offset,P.cellsOf f.type)|_=>[]
theorem op_flds{t:TypeId}{fuel:Nat}{cs:List Value}{x:DataW H × List MemPlace}{L:List (TypeId × Nat × Nat)}(h:DataW.trod enc P w base spare held fuel t cs=some x)(hf:flds P t=L)(hne:L ≠ []) :
  ∃ n,fuel=n+1∧cs.length=P.cellsOf t∧∀(i:Nat) (p:TypeId × Nat × Nat),L[i]?=some p→∃ y,DataW.trod enc P w base spare held n p.1 ((cs.drop p.2.1).take p.2.2)=some y:=by
 unfold flds at hf
 split at hf
 ·rename_i fs hu
  obtain⟨xs,n,h1,-,h2,h3,h4⟩:=DataW.trod_struct hu h
  refine⟨n,h1,h2,fun i p hp=>?_⟩
  rw [← hf,List.getElem?_map,Option.map_eq_some_iff]at hp
  obtain⟨f,hf1,rfl⟩:=hp
  have hf2:fs[i]?=some f:=by rw [← Array.getElem?_toList];exact hf1
  have hi:i<xs.length:=by rw [h3];exact(Array.getElem?_eq_some_iff.1 hf2).1
  exact⟨xs[i],(h4 i f hf2).trans (List.getElem?_eq_getElem hi)⟩
 ·exact absurd hf.symm hne
end
section
variable {H:Type} {enc:TypeId × Value→H} {w:World} {base:Nat} {spare:Nat→Bool} {held:Bool}
theorem len6{cs:List Value}(h:cs.length=6):∃ a b c d e f,cs=[a,b,c,d,e,f]:=by
 match cs,h with
 | [a,b,c,d,e,f],_=>exact⟨a,b,c,d,e,f,rfl⟩
theorem open_cmd{r:Reach}{b0:Nat}{v:Value}{d:DataW H}{p:List MemPlace}(hv:Value.okWide Tryz.prog w r b0 26 v)(h:DataW.Trod enc Tryz.prog w base spare held 26 v d p) :
  ∃(op:Int) (N T:ByteArray) (z1 z2 z3:Int),v=.agg #[.int .i64 op,.string N,.string T,.int .i64 z1,.int .i64 z2,.int .i64 z3]∧(-9223372036854775808≤z1∧z1≤9223372036854775807)∧(-9223372036854775808≤z2∧z2≤9223372036854775807)∧(-9223372036854775808≤z3∧z3≤9223372036854775807):=by
 obtain⟨fuel,hf⟩:=h
 simp only [Value.okWide,Tryz.underlying26]at hv
 obtain⟨cs,rfl,-,-⟩:=hv
 have hf':DataW.trod enc Tryz.prog w base spare held fuel 26 cs.toList=some (d,p):=hf
 obtain⟨n,rfl,hl,hq⟩:=op_flds hf' (L:=[(3,0,1),(9,1,1),(9,2,1),(3,3,1),(24,4,2)]) (by kernel_rfl) (by simp)
 obtain⟨a,b,c,e,f,g,hcs⟩:=len6 (hl.trans (by kernel_rfl))
 rw [hcs]at hq
 obtain⟨_,h0⟩:=hq 0 _ rfl
 obtain⟨_,h1⟩:=hq 1 _ rfl
 obtain⟨_,h2⟩:=hq 2 _ rfl
 obtain⟨_,h3⟩:=hq 3 _ rfl
 obtain⟨_,h4⟩:=hq 4 _ rfl
 obtain⟨m,rfl,-,hr⟩:=op_flds h4 (L:=[(3,0,1),(3,1,1)]) (by kernel_rfl) (by simp)
 obtain⟨_,h5⟩:=hr 0 _ rfl
 obtain⟨_,h6⟩:=hr 1 _ rfl
 obtain⟨k0,e0,-,-⟩:=DataW.trod_int Tryz.underlying3 h0
 obtain⟨k1,e1,-,-⟩:=DataW.trod_string Tryz.underlying9 h1
 obtain⟨k2,e2,-,-⟩:=DataW.trod_string Tryz.underlying9 h2
 obtain⟨k3,e3,-,w3⟩:=DataW.trod_int Tryz.underlying3 h3
 obtain⟨k5,e5,-,w5⟩:=DataW.trod_int Tryz.underlying3 h5
 obtain⟨k6,e6,-,w6⟩:=DataW.trod_int Tryz.underlying3 h6
 simp at e0 e1 e2 e3 e5 e6
 subst e0 e1 e2 e3 e5 e6
 refine⟨k0,k1,k2,k3,k5,k6,?_,⟨Bd.i64_0 w3,Int.le_of_lt_add_one (Bd.i64_1 w3)⟩,⟨Bd.i64_0 w5,Int.le_of_lt_add_one (Bd.i64_1 w5)⟩,⟨Bd.i64_0 w6,Int.le_of_lt_add_one (Bd.i64_1 w6)⟩⟩
 rw [show cs=cs.toList.toArray by simp,hcs]
end
end Op
end Go.Proofs.YthkegfdijohpaaaGreatDoor
