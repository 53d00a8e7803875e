/- What the walks of tree's all have in common: a row of data is kept,and given back. Conditions: the list is told;the predicate answers true at each. -/
import Derived.Test.YtlhmkfcbldghfaaGreatDoorTwX
namespace Go.Proofs.YtlhmkfcbldghfaaGreatDoor
set_option linter.all false
open Go.RowKit
namespace Fr
open Da Tr
section
variable {w W:World} {g:Option Nat} {Kp:World→Prop} {R:List RI} {Ds:List (Value × D)}
theorem Fm.rowPlus{vs:List Value}{ds:List D}(h:Fm w g Kp W R Ds)(hr:Row W (Off w.heap.size R) vs ds):Fm w g Kp W R (vs.zip ds++Ds):=
 ⟨h.gr,h.hg,h.st,h.kp,h.ap,h.ri,fun k v d hk=>by
  by_cases hl:k<(vs.zip ds).length
  ·rw [List.getElem?_append_left hl,List.getElem?_zip_eq_some]at hk
   obtain⟨x,hx,hi⟩:=hr.2 k d hk.2
   rw [hk.1,Option.some.injEq]at hx
   subst hx
   exact hi
  ·rw [List.getElem?_append_right (by omega)]at hk
   exact h.da _ v d hk⟩
theorem Fm.rowBack{vs:List Value}{ds:List D}(h:Fm w g Kp W R (vs.zip ds++Ds))(hl:vs.length=ds.length):Row W (Off w.heap.size R) vs ds:=
 ⟨hl,fun j d hd=>by
  have hj:=(List.getElem?_eq_some_iff.1 hd).1
  obtain⟨x,hx⟩:∃ x,vs[j]?=some x:=⟨vs[j],List.getElem?_eq_getElem (by omega)⟩
  refine⟨x,hx,h.da j x d ?_⟩
  rw [List.getElem?_append_left (by simp;omega),List.getElem?_zip_eq_some]
  exact⟨hx,hd⟩⟩
theorem Fm.rowLess:∀{xs:List (Value × D)},Fm w g Kp W R (xs++Ds)→Fm w g Kp W R Ds
 | [],h=>h
 | _::xs,h=>Fm.rowLess (xs:=xs) h.less
theorem Fm.c2{b:Nat}{x0 x1:Value}{cs:List Value}(h:Fm w g Kp W (.blk b (x0::x1::cs)::R) Ds):W.cell? ⟨b,0,none⟩=some x0∧W.cell? ⟨b,1,none⟩=some x1:=⟨h.cellAt 0 rfl 0 rfl,h.cellAt 0 rfl 1 rfl⟩
theorem Fm.c3{b:Nat}{x0 x1 x2:Value}{cs:List Value}(h:Fm w g Kp W (.blk b (x0::x1::x2::cs)::R) Ds):W.cell? ⟨b,0,none⟩=some x0∧W.cell? ⟨b,1,none⟩=some x1∧W.cell? ⟨b,2,none⟩=some x2:=⟨h.cellAt 0 rfl 0 rfl,h.cellAt 0 rfl 1 rfl,h.cellAt 0 rfl 2 rfl⟩
theorem Fm.c4{b:Nat}{x0 x1 x2 x3:Value}{cs:List Value}(h:Fm w g Kp W (.blk b (x0::x1::x2::x3::cs)::R) Ds):W.cell? ⟨b,0,none⟩=some x0∧W.cell? ⟨b,1,none⟩=some x1∧W.cell? ⟨b,2,none⟩=some x2∧W.cell? ⟨b,3,none⟩=some x3:=⟨h.cellAt 0 rfl 0 rfl,h.cellAt 0 rfl 1 rfl,h.cellAt 0 rfl 2 rfl,h.cellAt 0 rfl 3 rfl⟩
theorem Fm.c5{b:Nat}{x0 x1 x2 x3 x4:Value}{cs:List Value}(h:Fm w g Kp W (.blk b (x0::x1::x2::x3::x4::cs)::R) Ds):W.cell? ⟨b,0,none⟩=some x0∧W.cell? ⟨b,1,none⟩=some x1∧W.cell? ⟨b,2,none⟩=some x2∧W.cell? ⟨b,3,none⟩=some x3∧W.cell? ⟨b,4,none⟩=some x4:=⟨h.cellAt 0 rfl 0 rfl,h.cellAt 0 rfl 1 rfl,h.cellAt 0 rfl 2 rfl,h.cellAt 0 rfl 3 rfl,h.cellAt 0 rfl 4 rfl⟩
theorem Fm.c6{b:Nat}{x0 x1 x2 x3 x4 x5:Value}{cs:List Value}(h:Fm w g Kp W (.blk b (x0::x1::x2::x3::x4::x5::cs)::R) Ds):W.cell? ⟨b,0,none⟩=some x0∧W.cell? ⟨b,1,none⟩=some x1∧W.cell? ⟨b,2,none⟩=some x2∧W.cell? ⟨b,3,none⟩=some x3∧W.cell? ⟨b,4,none⟩=some x4∧W.cell? ⟨b,5,none⟩=some x5:=⟨h.cellAt 0 rfl 0 rfl,h.cellAt 0 rfl 1 rfl,h.cellAt 0 rfl 2 rfl,h.cellAt 0 rfl 3 rfl,h.cellAt 0 rfl 4 rfl,h.cellAt 0 rfl 5 rfl⟩
theorem Fm.c7{b:Nat}{x0 x1 x2 x3 x4 x5 x6:Value}{cs:List Value}(h:Fm w g Kp W (.blk b (x0::x1::x2::x3::x4::x5::x6::cs)::R) Ds):W.cell? ⟨b,0,none⟩=some x0∧W.cell? ⟨b,1,none⟩=some x1∧W.cell? ⟨b,2,none⟩=some x2∧W.cell? ⟨b,3,none⟩=some x3∧W.cell? ⟨b,4,none⟩=some x4∧W.cell? ⟨b,5,none⟩=some x5∧W.cell? ⟨b,6,none⟩=some x6:=⟨h.cellAt 0 rfl 0 rfl,h.cellAt 0 rfl 1 rfl,h.cellAt 0 rfl 2 rfl,h.cellAt 0 rfl 3 rfl,h.cellAt 0 rfl 4 rfl,h.cellAt 0 rfl 5 rfl,h.cellAt 0 rfl 6 rfl⟩
theorem Fm.c8{b:Nat}{x0 x1 x2 x3 x4 x5 x6 x7:Value}{cs:List Value}(h:Fm w g Kp W (.blk b (x0::x1::x2::x3::x4::x5::x6::x7::cs)::R) Ds):W.cell? ⟨b,0,none⟩=some x0∧W.cell? ⟨b,1,none⟩=some x1∧W.cell? ⟨b,2,none⟩=some x2∧W.cell? ⟨b,3,none⟩=some x3∧W.cell? ⟨b,4,none⟩=some x4∧W.cell? ⟨b,5,none⟩=some x5∧W.cell? ⟨b,6,none⟩=some x6∧W.cell? ⟨b,7,none⟩=some x7:=⟨h.cellAt 0 rfl 0 rfl,h.cellAt 0 rfl 1 rfl,h.cellAt 0 rfl 2 rfl,h.cellAt 0 rfl 3 rfl,h.cellAt 0 rfl 4 rfl,h.cellAt 0 rfl 5 rfl,h.cellAt 0 rfl 6 rfl,h.cellAt 0 rfl 7 rfl⟩
theorem Fm.c9{b:Nat}{x0 x1 x2 x3 x4 x5 x6 x7 x8:Value}{cs:List Value}(h:Fm w g Kp W (.blk b (x0::x1::x2::x3::x4::x5::x6::x7::x8::cs)::R) Ds):W.cell? ⟨b,0,none⟩=some x0∧W.cell? ⟨b,1,none⟩=some x1∧W.cell? ⟨b,2,none⟩=some x2∧W.cell? ⟨b,3,none⟩=some x3∧W.cell? ⟨b,4,none⟩=some x4∧W.cell? ⟨b,5,none⟩=some x5∧W.cell? ⟨b,6,none⟩=some x6∧W.cell? ⟨b,7,none⟩=some x7∧W.cell? ⟨b,8,none⟩=some x8:=⟨h.cellAt 0 rfl 0 rfl,h.cellAt 0 rfl 1 rfl,h.cellAt 0 rfl 2 rfl,h.cellAt 0 rfl 3 rfl,h.cellAt 0 rfl 4 rfl,h.cellAt 0 rfl 5 rfl,h.cellAt 0 rfl 6 rfl,h.cellAt 0 rfl 7 rfl,h.cellAt 0 rfl 8 rfl⟩
end
end Fr
abbrev rowV(vs:List Value):Value:=.agg vs.toArray
abbrev oneV(vs:List Value):Value:=vs.headD undef
def PrD(A:List Value→Value)(Kp:World→Prop)(I:List Fr.RI→Prop)(f:Nat)(caps:Array Value)(ds:List Da.D):Prop:=
 ∀(w W:World) (g:Option Nat) (R:List Fr.RI) (Ds:List (Value × Da.D)) (vs:List Value),I R→Fr.Fm w g Kp W R Ds→Da.Row W (Fr.Off w.heap.size R) vs ds →
  Calls Tryz.prog f (#[A vs]++caps) W fun e W'=>e=.returned (.bool true)∧Fr.Fm w g Kp W' R Ds
def AllD(A:List Value→Value)(n F:Nat):Prop:=
 ∀(Kp:World→Prop) (I:List Fr.RI→Prop) (hI:∀ r R,I R→I (r::R)) (f:Nat) (caps:Array Value) (hc:∀(args:Array Value) (X:World),(callFunc f args).run Tryz.prog X=.ok (.enter f args) X) (rows:List (List Da.D)) (hl:∀ ds∈rows,ds.length=n) (hok:∀ ds∈rows,PrD A Kp I f caps ds)
  (w W:World) (g:Option Nat) (R:List Fr.RI) (Ds:List (Value × Da.D)) (m:Nat) (v:Value),I R→Ds[m]?=some (v,Da.D.list n rows)→Fr.Fm w g Kp W R Ds →
  Calls Tryz.prog F #[v,.func (.func f) #[] caps] W fun e W'=>e=.returned (.bool true)∧Fr.Fm w g Kp W' R Ds
end Go.Proofs.YtlhmkfcbldghfaaGreatDoor
