/- Laws of drawn regions in short: an operation that only reads comes first;what is stored leaves the rest. No program in sight. Conditions: none. -/
import Derived.Test.YtlhmkfcbldghfaaGreatDoorSmA
import Derived.Test.YtlhmkfcbldghfaaGreatDoorRegX
import Derived.Test.YtlhmkfcbldghfaaGreatDoorTwX
import Derived.Deep.CutRange
namespace Go.Proofs.YtlhmkfcbldghfaaGreatDoor
set_option linter.all false
open Go.RowKit
namespace Fr
open Da Tr
theorem Fm.flip {w W : World} {g : Option Nat} {Kp : World → Prop} {r s : RI} {R : List RI} {Ds : List (Value × D)} (h : Fm w g Kp W (r :: s :: R) Ds) : Fm w g Kp W (s :: r :: R) Ds:=by
 have h3:=h.pick (1 :: 0 :: (List.range R.length).map (· + 2)) (List.range Ds.length) (by
  rw [List.nodup_cons,List.nodup_cons]
  refine ⟨by simp,by simp,?_⟩
  rw [List.nodup_iff_pairwise_ne,List.pairwise_map]
  exact (List.nodup_range).imp fun h => by omega) (by intro k hk;simp at hk ⊢;omega) (by intro k hk;simp at hk ⊢;omega)
 have e1 : (1 :: 0 :: (List.range R.length).map (· + 2)).map (fun k => (r :: s :: R).getD k dead) = s :: r :: R:=by
  simp only [List.map_cons,List.getD_cons_succ,List.getD_cons_zero,List.map_map]
  congr 2
  apply List.ext_getElem?
  intro i
  by_cases hi : i < R.length
  ·simp [hi]
  ·simp [hi]
 have e2 : (List.range Ds.length).map (fun k => Ds.getD k (.nilIface,.int 0)) = Ds:=by
  apply List.ext_getElem?
  intro i
  by_cases hi : i < Ds.length
  ·simp [hi]
  ·simp [hi]
 rwa [e1,e2] at h3
theorem row3 {w : World} {P : Nat → Prop} {cs : List Value} {d0 d1 d2 : D} (h : Row w P cs [d0,d1,d2]) : ∃ c0 c1 c2 : Value,cs = [c0,c1,c2] ∧ Is w P c0 d0 ∧ Is w P c1 d1 ∧ Is w P c2 d2:=by
 obtain ⟨c0,_,rfl,h0,h⟩:=row_inv h
 obtain ⟨c1,_,rfl,h1,h⟩:=row_inv h
 obtain ⟨c2,_,rfl,h2,h⟩:=row_inv h
 obtain rfl:=row_inv0 h
 exact ⟨c0,c1,c2,rfl,h0,h1,h2⟩
theorem row6 {w : World} {P : Nat → Prop} {cs : List Value} {d0 d1 d2 d3 d4 d5 : D} (h : Row w P cs [d0,d1,d2,d3,d4,d5]) : ∃ c0 c1 c2 c3 c4 c5 : Value,cs = [c0,c1,c2,c3,c4,c5] ∧ Is w P c0 d0 ∧ Is w P c1 d1 ∧ Is w P c2 d2 ∧ Is w P c3 d3 ∧ Is w P c4 d4 ∧ Is w P c5 d5:=by
 obtain ⟨c0,_,rfl,h0,h⟩:=row_inv h
 obtain ⟨c1,_,rfl,h1,h⟩:=row_inv h
 obtain ⟨c2,_,rfl,h2,h⟩:=row_inv h
 obtain ⟨c3,_,rfl,h3,h⟩:=row_inv h
 obtain ⟨c4,_,rfl,h4,h⟩:=row_inv h
 obtain ⟨c5,_,rfl,h5,h⟩:=row_inv h
 obtain rfl:=row_inv0 h
 exact ⟨c0,c1,c2,c3,c4,c5,rfl,h0,h1,h2,h3,h4,h5⟩
theorem row9 {w : World} {P : Nat → Prop} {cs : List Value} {d0 d1 d2 d3 d4 d5 d6 d7 d8 : D} (h : Row w P cs [d0,d1,d2,d3,d4,d5,d6,d7,d8]) : ∃ c0 c1 c2 c3 c4 c5 c6 c7 c8 : Value,cs = [c0,c1,c2,c3,c4,c5,c6,c7,c8] ∧ Is w P c0 d0 ∧ Is w P c1 d1 ∧ Is w P c2 d2 ∧ Is w P c3 d3 ∧ Is w P c4 d4 ∧ Is w P c5 d5 ∧ Is w P c6 d6 ∧ Is w P c7 d7 ∧ Is w P c8 d8:=by
 obtain ⟨c0,_,rfl,h0,h⟩:=row_inv h
 obtain ⟨c1,_,rfl,h1,h⟩:=row_inv h
 obtain ⟨c2,_,rfl,h2,h⟩:=row_inv h
 obtain ⟨c3,_,rfl,h3,h⟩:=row_inv h
 obtain ⟨c4,_,rfl,h4,h⟩:=row_inv h
 obtain ⟨c5,_,rfl,h5,h⟩:=row_inv h
 obtain ⟨c6,_,rfl,h6,h⟩:=row_inv h
 obtain ⟨c7,_,rfl,h7,h⟩:=row_inv h
 obtain ⟨c8,_,rfl,h8,h⟩:=row_inv h
 obtain rfl:=row_inv0 h
 exact ⟨c0,c1,c2,c3,c4,c5,c6,c7,c8,rfl,h0,h1,h2,h3,h4,h5,h6,h7,h8⟩
theorem row10 {w : World} {P : Nat → Prop} {cs : List Value} {d0 d1 d2 d3 d4 d5 d6 d7 d8 d9 : D} (h : Row w P cs [d0,d1,d2,d3,d4,d5,d6,d7,d8,d9]) : ∃ c0 c1 c2 c3 c4 c5 c6 c7 c8 c9 : Value,cs = [c0,c1,c2,c3,c4,c5,c6,c7,c8,c9] ∧ Is w P c0 d0 ∧ Is w P c1 d1 ∧ Is w P c2 d2 ∧ Is w P c3 d3 ∧ Is w P c4 d4 ∧ Is w P c5 d5 ∧ Is w P c6 d6 ∧ Is w P c7 d7 ∧ Is w P c8 d8 ∧ Is w P c9 d9:=by
 obtain ⟨c0,_,rfl,h0,h⟩:=row_inv h
 obtain ⟨c1,_,rfl,h1,h⟩:=row_inv h
 obtain ⟨c2,_,rfl,h2,h⟩:=row_inv h
 obtain ⟨c3,_,rfl,h3,h⟩:=row_inv h
 obtain ⟨c4,_,rfl,h4,h⟩:=row_inv h
 obtain ⟨c5,_,rfl,h5,h⟩:=row_inv h
 obtain ⟨c6,_,rfl,h6,h⟩:=row_inv h
 obtain ⟨c7,_,rfl,h7,h⟩:=row_inv h
 obtain ⟨c8,_,rfl,h8,h⟩:=row_inv h
 obtain ⟨c9,_,rfl,h9,h⟩:=row_inv h
 obtain rfl:=row_inv0 h
 exact ⟨c0,c1,c2,c3,c4,c5,c6,c7,c8,c9,rfl,h0,h1,h2,h3,h4,h5,h6,h7,h8,h9⟩
theorem row13 {w : World} {P : Nat → Prop} {cs : List Value} {d0 d1 d2 d3 d4 d5 d6 d7 d8 d9 d10 d11 d12 : D} (h : Row w P cs [d0,d1,d2,d3,d4,d5,d6,d7,d8,d9,d10,d11,d12]) : ∃ c0 c1 c2 c3 c4 c5 c6 c7 c8 c9 c10 c11 c12 : Value,cs = [c0,c1,c2,c3,c4,c5,c6,c7,c8,c9,c10,c11,c12] ∧ Is w P c0 d0 ∧ Is w P c1 d1 ∧ Is w P c2 d2 ∧ Is w P c3 d3 ∧ Is w P c4 d4 ∧ Is w P c5 d5 ∧ Is w P c6 d6 ∧ Is w P c7 d7 ∧ Is w P c8 d8 ∧ Is w P c9 d9 ∧ Is w P c10 d10 ∧ Is w P c11 d11 ∧ Is w P c12 d12:=by
 obtain ⟨c0,_,rfl,h0,h⟩:=row_inv h
 obtain ⟨c1,_,rfl,h1,h⟩:=row_inv h
 obtain ⟨c2,_,rfl,h2,h⟩:=row_inv h
 obtain ⟨c3,_,rfl,h3,h⟩:=row_inv h
 obtain ⟨c4,_,rfl,h4,h⟩:=row_inv h
 obtain ⟨c5,_,rfl,h5,h⟩:=row_inv h
 obtain ⟨c6,_,rfl,h6,h⟩:=row_inv h
 obtain ⟨c7,_,rfl,h7,h⟩:=row_inv h
 obtain ⟨c8,_,rfl,h8,h⟩:=row_inv h
 obtain ⟨c9,_,rfl,h9,h⟩:=row_inv h
 obtain ⟨c10,_,rfl,h10,h⟩:=row_inv h
 obtain ⟨c11,_,rfl,h11,h⟩:=row_inv h
 obtain ⟨c12,_,rfl,h12,h⟩:=row_inv h
 obtain rfl:=row_inv0 h
 exact ⟨c0,c1,c2,c3,c4,c5,c6,c7,c8,c9,c10,c11,c12,rfl,h0,h1,h2,h3,h4,h5,h6,h7,h8,h9,h10,h11,h12⟩
section
variable {P : Program} {ops : Array Oper} {rest : List Oper} {Q : Exit → Act → World → Prop} {K : Act → World → Prop} {a : Act} {w W X : World} {g : Option Nat} {Kp : World → Prop} {R : List RI} {Ds : List (Value × D)} {o : Oper}
theorem ow_storeB (k : Nat) (h : Fm w g Kp X R Ds) {T : TypeId} {z : List Value} {bytes : Nat} (hT : TyIs P T z bytes) {x y : Operand} (ho : o.op = .store T x y) {b off : Nat} {cs vs : List Value} (hx : a.eval x = .pointer (some ⟨b,off,none⟩)) (hk : R[k]? = some (.blk b cs))
  {yv : Value} (hyv : evalQ a y = some yv) (hy' : yv.cells = vs.toArray) (hz : vs.length = z.length) (hl : off + vs.length ≤ cs.length) (h1 : ∀ v ∈ vs,v.oneCell' = true) (hB : Below W.heap.size W X) (hb : W.heap.size ≤ b)
  (hK : ∀ W' : World,Below W.heap.size W W' → Fm w g Kp W' (R.set k (.blk b (setL cs off vs))) Ds → K (a.put o.dst undef) W') : o.wp P a X K Q:=by
 have hy : (a.eval y).cells = vs.toArray:=by rw [evalQ_eval hyv];exact hy'
 obtain ⟨i,v,hi,_,_,hs,_⟩:=hT.info
 have hr:=run_storeVar_all (P:=P) (W:=X) b off T (a.eval y) vs hy (blk_there (h.at k hk) off vs.length hl) (by rw [hi,hz];simp [hs]) h1
 unfold Oper.wp execOp
 simp only [ho,hx,Instr.storeAt,Instr.sureAddr,Sem.run_bind,Sem.run_pure,Result.andThen_ok,hr]
 exact hK _ (below_set hB (setCells_grown b vs off X) hb) (h.set hk off vs)
theorem range_sub {b o : Nat} {cs ds : List Value} (h : W.rangeAt b o cs) (j : Nat) (hd : (cs.drop j).take ds.length = ds) : W.rangeAt b (o + j) ds:=by
 intro i v hv
 have hi:=(List.getElem?_eq_some_iff.1 hv).1
 rw [← hd,List.getElem?_take,if_pos hi,List.getElem?_drop] at hv
 rw [Nat.add_assoc]
 exact h (j + i) v hv
theorem wl_want {T : Op} {dst : Option Tmp} {ty : TypeId} {pos : String} {after : Array Edge} {gd : Nat × Bool} (hw : Region.wanted { dst:=dst,op:=T,type:=ty,pos:=pos,after:=after,guard:=some gd } (yielded ops a.tmps) = true)
  (h : wpList P ops Q ({ dst:=dst,op:=T,type:=ty,pos:=pos,after:=after,guard:=none } :: rest) a W) : wpList P ops Q ({ dst:=dst,op:=T,type:=ty,pos:=pos,after:=after,guard:=some gd } :: rest) a W:=by
 unfold wpList at h ⊢
 rw [if_pos hw]
 rw [if_pos (by rfl)] at h
 exact h
end
end Fr
end Go.Proofs.YtlhmkfcbldghfaaGreatDoor
