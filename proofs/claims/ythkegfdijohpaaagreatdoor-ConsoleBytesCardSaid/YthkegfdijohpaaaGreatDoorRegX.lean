/- A region that draws its order,where what holds of the world may hang on which operations have come up: a load may be taken first though a store behind it writes its cell. Conditions: the store waits,by way of others,for the load. -/
import Derived.OrdersHeld
import Derived.Deep.RegionHeld
import Derived.BigQuiet
namespace Go.Proofs.YthkegfdijohpaaaGreatDoor
set_option linter.all false
open Go.RowKit
section
variable {P:Program} {ops:Array Oper} {Q:Exit→Act→World→Prop} {md:Region.Mode} {S:Array Bool→World→Prop}
def Closed(md:Region.Mode)(ops:Array Oper)(L:Array Bool):Prop:=∀ j o,ops[j]?=some o→L.getD j false=true→∀ e∈o.after,Region.binds md e=true→L.getD e.on false=true
def wpAnyG(P:Program)(md:Region.Mode)(ops:Array Oper)(Q:Exit→Act→World→Prop)(S:Array Bool→World→Prop):Nat→Array Bool→Act→World→Prop
 | 0,listed,a,w=>Region.ready md ops listed=[]∧Q .normal a w
 | fuel+1,listed,a,w =>
  (Region.ready md ops listed=[]→Q .normal a w) ∧
  ∀ i∈Region.ready md ops listed,wpOp P ops Q i (fun a' w'=>S (listed.setIfInBounds i true) w'∧wpAnyG P md ops Q S fuel (listed.setIfInBounds i true) a' w') a w
theorem wpAny_of_G:∀(fuel:Nat) (listed:Array Bool) (a:Act) (w:World),wpAnyG P md ops Q S fuel listed a w→wpAny P md ops Q fuel listed a w
 | 0,_,_,_,h=>h
 | fuel+1,_,_,_,h=>⟨h.1,fun i hi=>wpOp_mono (fun a' w' h'=>wpAny_of_G fuel _ a' w' h'.2) (h.2 i hi)⟩
def Star(md:Region.Mode)(ops:Array Oper)(S:Array Bool→World→Prop)(n i:Nat)(w:World):Prop:=∃ L:Array Bool,L.size=n∧Closed md ops L∧L.getD i true=false∧S L w
theorem closed_put{listed:Array Bool}{j:Nat}(hc:Closed md ops listed)(hj:j∈Region.ready md ops listed):Closed md ops (listed.setIfInBounds j true):=by
 intro k o ho hk e he hb
 by_cases hkj:k=j
 ·subst hkj
  obtain⟨_,o',ho',hall⟩:=mem_ready.1 hj
  rw [ho]at ho'
  simp only [Option.some.injEq]at ho'
  subst ho'
  exact getD_set_true (hall e he hb)
 ·rw [getD_set_ne false (Ne.symm hkj)]at hk
  exact getD_set_true (hc k o ho hk e he hb)
theorem wpAnyG_first{n i:Nat}{oi:Oper}{v:Value}(hi:ops[i]?=some oi)(hsel:∀(j:Nat) (o:Oper) cs b,ops[j]?=some o→o.op ≠ .select cs b)
  (hQ:∀ c a w,Q (.panic c) (a.put oi.dst v) w→Q (.panic c) a w) (hS1:∀ L w,L.size=n→(S (L.setIfInBounds i true) w ↔ S L w)) :
  ∀(fuel:Nat) (listed:Array Bool) (a:Act) (w:World),listed.size=n →
   (∀ j oj,ops[j]?=some oj→j ≠ i→listed.getD j true=false→(∀ e∈oj.after,Region.binds md e=true→e.on ≠ i)→oi.apart ops oj=true) →
   i∈Region.ready md ops listed→Closed md ops listed→YieldsIf P ops (Star md ops S n i) oi v a→S listed w →
   wpAnyG P md ops Q S fuel (listed.setIfInBounds i true) (a.put oi.dst v) w→wpAnyG P md ops Q S (fuel+1) listed a w:=by
 intro fuel
 induction fuel with
 | zero =>
  intro listed a w hn _ hr hc hy hS H
  refine⟨fun h=>(by rw [h]at hr;cases hr),fun j hj=>?_⟩
  by_cases hji:j=i
  ·subst hji;exact hy.wpOp hi ⟨listed,hn,hc,(mem_ready.1 hr).1,hS⟩ ⟨(hS1 _ _ hn).2 hS,H⟩
  ·have:=ready_mono hj hji
   rw [H.1]at this
   cases this
 | succ fuel ih =>
  intro listed a w hn hfree hr hc hy hS H
  refine⟨fun h=>(by rw [h]at hr;cases hr),fun j hj=>?_⟩
  by_cases hji:j=i
  ·subst hji;exact hy.wpOp hi ⟨listed,hn,hc,(mem_ready.1 hr).1,hS⟩ ⟨(hS1 _ _ hn).2 hS,H⟩
  ·have h1:=H.2 j (ready_mono hj hji)
   obtain⟨hjun,oj,hoj,hall⟩:=mem_ready.1 hj
   have hnot:∀ e∈oj.after,Region.binds md e=true→e.on ≠ i:=fun e he hb heq=>by
    have h1:=hall e he hb
    have h0:=(mem_ready.1 hr).1
    rw [heq]at h1
    rcases Nat.lt_or_ge i listed.size with h'|h'
    ·simp [h']at h0 h1;rw [h0]at h1;cases h1
    ·simp [Array.getElem?_eq_none h']at h1
   have h2:=wpOp_putIf hoj (hfree j oj hoj hji hjun hnot) (fun cs b=>hsel i oi cs b hi) (fun cs b=>hsel j oj cs b hoj) hQ hy h1
   have hfree':∀ k ok,ops[k]?=some ok→k ≠ i→(listed.setIfInBounds j true).getD k true=false →
     (∀ e∈ok.after,Region.binds md e=true→e.on ≠ i)→oi.apart ops ok=true:=fun k ok hk hki hun hno=>by
    refine hfree k ok hk hki ?_ hno
    by_cases hjk:j=k
    ·subst hjk;exact hjun
    ·rw [getD_set_ne true hjk]at hun;exact hun
   have hn':(listed.setIfInBounds j true).size=n:=by rw [Array.size_setIfInBounds,hn]
   refine wpOp_mono (fun a' w' h3=>?_) h2
   obtain⟨h3y,h3S,h3⟩:=h3
   rw [Array.setIfInBounds_comm _ _ (Ne.symm hji)]at h3S
   have hS':=(hS1 _ _ hn').1 h3S
   refine⟨hS',ih (listed.setIfInBounds j true) a' w' hn' hfree' (ready_mono hr (Ne.symm hji)) (closed_put hc hj) h3y hS' ?_⟩
   rw [Array.setIfInBounds_comm _ _ hji]
   exact h3
theorem wpAnyG_take{n i:Nat}{oi:Oper}{v:Value}{fuel:Nat}{listed:Array Bool}{a:Act}{w:World}(hi':ops.toList[i]?=some oi)
  (hs:Region.noSelect ops=true) (hf:Region.free md ops listed i=true) (hr:(Region.ready md ops listed).contains i=true)
  (hn:listed.size=n) (hS1:∀ L w,L.size=n→(S (L.setIfInBounds i true) w ↔ S L w))
  (hQ:∀ c a w,Q (.panic c) (a.put oi.dst v) w→Q (.panic c) a w) (hc:Closed md ops listed) (hy:YieldsIf P ops (Star md ops S n i) oi v a) (hS:S listed w)
  (h:Closed md ops (listed.setIfInBounds i true)→S (listed.setIfInBounds i true) w→wpAnyG P md ops Q S fuel (listed.setIfInBounds i true) (a.put oi.dst v) w):wpAnyG P md ops Q S (fuel+1) listed a w:=by
 have hi:ops[i]?=some oi:=by simpa using hi'
 have hr':i∈Region.ready md ops listed:=by simpa using hr
 exact wpAnyG_first hi (Region.noSelect_spec hs) hQ hS1 fuel listed a w hn (Region.free_spec hi hf) hr' hc hy hS (h (closed_put hc hr') ((hS1 _ _ hn).2 hS))
theorem wpAnyG_done{listed:Array Bool}{a:Act}{w:World}(hr:Region.ready md ops listed=[])(h:Q .normal a w) :
  ∀ fuel,wpAnyG P md ops Q S fuel listed a w
 | 0=>⟨hr,h⟩
 | _+1=>⟨fun _=>h,by rw [hr];simp⟩
def AllReadyG(P:Program)(md:Region.Mode)(ops:Array Oper)(Q:Exit→Act→World→Prop)(S:Array Bool→World→Prop)(fuel:Nat)(listed:Array Bool)(a:Act)(w:World)(rs:List Nat):Prop:=
 ∀ i∈rs,wpOp P ops Q i (fun a' w'=>S (listed.setIfInBounds i true) w'∧wpAnyG P md ops Q S fuel (listed.setIfInBounds i true) a' w') a w
theorem AllReadyG.nil{fuel:Nat}{listed:Array Bool}{a:Act}{w:World}:AllReadyG P md ops Q S fuel listed a w []:=fun _ h=>by cases h
theorem AllReadyG.cons{fuel:Nat}{listed:Array Bool}{a:Act}{w:World}{i:Nat}{o:Oper}{rs:List Nat}(ho':ops.toList[i]?=some o)
  (h:∀ K':Act→World→Prop,Shut (∀ a w,S (listed.setIfInBounds i true) w→(S (listed.setIfInBounds i true) w→wpAnyG P md ops Q S fuel (listed.setIfInBounds i true) a w)→K' a w)→if Region.wanted o (yielded ops a.tmps)=true then Oper.wp P o a w K' Q else K' (a.put o.dst undef) w)
  (hs:AllReadyG P md ops Q S fuel listed a w rs):AllReadyG P md ops Q S fuel listed a w (i::rs):=fun j hj=>by
 rcases List.mem_cons.1 hj with rfl|hj
 ·have ho:ops[j]?=some o:=by simpa using ho'
  exact wpOp_step ho (fun K' hK=>h K' (fun a w hS hW=>hK a w ⟨hS,hW hS⟩))
 ·exact hs j hj
theorem wpAnyG_ready{rs:List Nat}{fuel:Nat}{listed:Array Bool}{a:Act}{w:World}(hr:Region.ready md ops listed=rs)(hne:rs ≠ [])
  (h:AllReadyG P md ops Q S fuel listed a w rs):wpAnyG P md ops Q S (fuel+1) listed a w:=⟨fun h0=>absurd (hr ▸ h0) hne,hr ▸ h⟩
theorem rd1{i fuel:Nat}{listed:Array Bool}{a:Act}{w:World}(hr:Region.ready md ops listed=[i])(h:AllReadyG P md ops Q S fuel listed a w [i]):wpAnyG P md ops Q S (fuel+1) listed a w:=wpAnyG_ready hr (by simp) h
theorem closed_none(md:Region.Mode)(ops:Array Oper)(n:Nat):Closed md ops (Array.replicate n false):=by
 intro j o _ hj
 exfalso
 simp [Array.getD]at hj
def closedB(md:Region.Mode)(ops:Array Oper)(L:Array Bool):Bool:=(List.range ops.size).all fun j=>!L.getD j false || ((ops[j]?).map fun o=>o.after.all fun e=>!Region.binds md e || L.getD e.on false).getD true
theorem closed_all{md:Region.Mode}{ops:Array Oper}{L:Array Bool}(h:closedB md ops L=true):Closed md ops L:=by
 intro j o ho hj e he hb
 have hlt:=(Array.getElem?_eq_some_iff.1 ho).1
 have h1:=List.all_eq_true.1 h j (List.mem_range.2 hlt)
 rw [hj,ho]at h1
 simp only [Bool.not_true,Bool.false_or,Option.map_some,Option.getD_some,Array.all_eq_true']at h1
 have h2:=h1 e he
 rw [hb]at h2
 simpa using h2
theorem wp_region_G{id:Nat}{a:Act}{w:World}(S:Array Bool→World→Prop)(n:Nat)(hm:P.follows .mixedOrders=true)(hn:ops.size=n)(hS:S (Array.replicate n false) w.drew)
  (h:Closed .any ops (Array.replicate n false)→S (Array.replicate n false) w.drew→wpAnyG P .any ops Q S n (Array.replicate n false) a w.drew):(Code.region id ops true).wp P Q a w:=by
 subst hn
 exact wp_region_any hm (wpAny_of_G _ _ _ _ (h (closed_none _ _ _) hS))
end
section
variable {P:Program} {ops:Array Oper} {Q:Exit→Act→World→Prop} {md:Region.Mode} {S:Array Bool→World→Prop}
def StarD(md:Region.Mode)(ops:Array Oper)(S:Array Bool→World→Prop)(n i:Nat)(w:World):Prop:=
 ∃ L:Array Bool,L.size=n∧Closed md ops L∧(∀ o,ops[i]?=some o→∀ e∈o.after,Region.binds md e=true→L.getD e.on false=true)∧S L w
theorem starD_of{listed:Array Bool}{n i:Nat}{w:World}(hn:listed.size=n)(hc:Closed md ops listed)(hr:i∈Region.ready md ops listed)(hS:S listed w):StarD md ops S n i w:=by
 obtain⟨_,oi,hoi,hall⟩:=mem_ready.1 hr
 refine⟨listed,hn,hc,fun o ho e he hb=>?_,hS⟩
 rw [hoi]at ho
 simp only [Option.some.injEq]at ho
 subst ho
 exact hall e he hb
theorem wpAnyD_first{n i:Nat}{oi:Oper}{v:Value}(hi:ops[i]?=some oi)(hsel:∀(j:Nat) (o:Oper) cs b,ops[j]?=some o→o.op ≠ .select cs b)
  (hQ:∀ c a w,Q (.panic c) (a.put oi.dst v) w→Q (.panic c) a w) (hS1:∀ L w,L.size=n→(S (L.setIfInBounds i true) w ↔ S L w)) :
  ∀(fuel:Nat) (listed:Array Bool) (a:Act) (w:World),listed.size=n →
   (∀ j oj,ops[j]?=some oj→j ≠ i→listed.getD j true=false→(∀ e∈oj.after,Region.binds md e=true→e.on ≠ i)→oi.apart ops oj=true) →
   i∈Region.ready md ops listed→Closed md ops listed→YieldsIf P ops (StarD md ops S n i) oi v a→S listed w →
   wpAnyG P md ops Q S fuel (listed.setIfInBounds i true) (a.put oi.dst v) w→wpAnyG P md ops Q S (fuel+1) listed a w:=by
 intro fuel
 induction fuel with
 | zero =>
  intro listed a w hn _ hr hc hy hS H
  refine⟨fun h=>(by rw [h]at hr;cases hr),fun j hj=>?_⟩
  by_cases hji:j=i
  ·subst hji;exact hy.wpOp hi (starD_of hn hc hr hS) ⟨(hS1 _ _ hn).2 hS,H⟩
  ·have:=ready_mono hj hji
   rw [H.1]at this
   cases this
 | succ fuel ih =>
  intro listed a w hn hfree hr hc hy hS H
  refine⟨fun h=>(by rw [h]at hr;cases hr),fun j hj=>?_⟩
  by_cases hji:j=i
  ·subst hji;exact hy.wpOp hi (starD_of hn hc hr hS) ⟨(hS1 _ _ hn).2 hS,H⟩
  ·have h1:=H.2 j (ready_mono hj hji)
   obtain⟨hjun,oj,hoj,hall⟩:=mem_ready.1 hj
   have hnot:∀ e∈oj.after,Region.binds md e=true→e.on ≠ i:=fun e he hb heq=>by
    have h1:=hall e he hb
    have h0:=(mem_ready.1 hr).1
    rw [heq]at h1
    rcases Nat.lt_or_ge i listed.size with h'|h'
    ·simp [h']at h0 h1;rw [h0]at h1;cases h1
    ·simp [Array.getElem?_eq_none h']at h1
   have h2:=wpOp_putIf hoj (hfree j oj hoj hji hjun hnot) (fun cs b=>hsel i oi cs b hi) (fun cs b=>hsel j oj cs b hoj) hQ hy h1
   have hfree':∀ k ok,ops[k]?=some ok→k ≠ i→(listed.setIfInBounds j true).getD k true=false →
     (∀ e∈ok.after,Region.binds md e=true→e.on ≠ i)→oi.apart ops ok=true:=fun k ok hk hki hun hno=>by
    refine hfree k ok hk hki ?_ hno
    by_cases hjk:j=k
    ·subst hjk;exact hjun
    ·rw [getD_set_ne true hjk]at hun;exact hun
   have hn':(listed.setIfInBounds j true).size=n:=by rw [Array.size_setIfInBounds,hn]
   refine wpOp_mono (fun a' w' h3=>?_) h2
   obtain⟨h3y,h3S,h3⟩:=h3
   rw [Array.setIfInBounds_comm _ _ (Ne.symm hji)]at h3S
   have hS':=(hS1 _ _ hn').1 h3S
   refine⟨hS',ih (listed.setIfInBounds j true) a' w' hn' hfree' (ready_mono hr (Ne.symm hji)) (closed_put hc hj) h3y hS' ?_⟩
   rw [Array.setIfInBounds_comm _ _ hji]
   exact h3
theorem wpAnyD_take{n i:Nat}{oi:Oper}{v:Value}{fuel:Nat}{listed:Array Bool}{a:Act}{w:World}(hi':ops.toList[i]?=some oi)
  (hs:Region.noSelect ops=true) (hf:Region.free md ops listed i=true) (hr:(Region.ready md ops listed).contains i=true)
  (hn:listed.size=n) (hS1:∀ L w,L.size=n→(S (L.setIfInBounds i true) w ↔ S L w))
  (hQ:∀ c a w,Q (.panic c) (a.put oi.dst v) w→Q (.panic c) a w) (hc:Closed md ops listed) (hy:YieldsIf P ops (StarD md ops S n i) oi v a) (hS:S listed w)
  (h:wpAnyG P md ops Q S fuel (listed.setIfInBounds i true) (a.put oi.dst v) w):wpAnyG P md ops Q S (fuel+1) listed a w:=by
 have hi:ops[i]?=some oi:=by simpa using hi'
 have hr':i∈Region.ready md ops listed:=by simpa using hr
 exact wpAnyD_first hi (Region.noSelect_spec hs) hQ hS1 fuel listed a w hn (Region.free_spec hi hf) hr' hc hy hS h
def waitsD(md:Region.Mode)(ops:Array Oper)(k i:Nat):Bool:=((ops[k]?).map fun o=>o.after.any fun e=>Region.binds md e && e.on == i).getD false
theorem closed_waitsD{L:Array Bool}{k i:Nat}(hw:waitsD md ops k i=true)(hc:Closed md ops L)(hk:L.getD k false=true):L.getD i false=true:=by
 unfold waitsD at hw
 cases ho:ops[k]? with
 | none=>rw [ho]at hw;cases hw
 | some o =>
  rw [ho]at hw
  simp only [Option.map_some,Option.getD_some,Array.any_eq_true']at hw
  obtain⟨e,he,hb⟩:=hw
  simp only [Bool.and_eq_true,beq_iff_eq]at hb
  have:=hc k o ho hk e he hb.1
  rw [hb.2]at this
  exact this
theorem dep_waitsD{L:Array Bool}{k i:Nat}(hw:waitsD md ops k i=true)(hd:∀ o,ops[k]?=some o→∀ e∈o.after,Region.binds md e=true→L.getD e.on false=true):L.getD i false=true:=by
 unfold waitsD at hw
 cases ho:ops[k]? with
 | none=>rw [ho]at hw;cases hw
 | some o =>
  rw [ho]at hw
  simp only [Option.map_some,Option.getD_some,Array.any_eq_true']at hw
  obtain⟨e,he,hb⟩:=hw
  simp only [Bool.and_eq_true,beq_iff_eq]at hb
  have:=hd o ho e he hb.1
  rw [hb.2]at this
  exact this
def SD(z:Nat)(B C:World→Prop)(L:Array Bool)(X:World):Prop:=B X∧(L.getD z false=true→C X)
theorem SD_put{z n i:Nat}{B C:World→Prop}(h:i ≠ z):∀(L:Array Bool) (X:World),L.size=n→(SD z B C (L.setIfInBounds i true) X ↔ SD z B C L X):=by
 intro L X _
 unfold SD
 rw [getD_set_ne false h]
theorem starD_base{z n i:Nat}{B C:World→Prop}{X:World}(h:StarD md ops (SD z B C) n i X):B X:=by
 obtain⟨L,_,_,_,h⟩:=h;exact h.1
theorem starD_late{z n i m:Nat}{B C:World→Prop}{X:World}(h:StarD md ops (SD z B C) n i X)(h1:waitsD md ops i m=true)(h2:m=z∨waitsD md ops m z=true):C X:=by
 obtain⟨L,hn,hc,hd,h⟩:=h
 refine h.2 ?_
 rcases h2 with h2|h2
 ·subst h2;exact dep_waitsD h1 hd
 ·exact closed_waitsD h2 hc (dep_waitsD h1 hd)
end
section
variable {P:Program} {ops:Array Oper} {md:Region.Mode}
def UpTo(z:Nat)(B:World→Prop)(L:Array Bool)(X:World):Prop:=L.getD z false=false→B X
theorem upTo_put{z n i:Nat}{B:World→Prop}(h:i ≠ z):∀(L:Array Bool) (X:World),L.size=n→(UpTo z B (L.setIfInBounds i true) X ↔ UpTo z B L X):=by
 intro L X _
 unfold UpTo
 rw [getD_set_ne false h]
def waitsC(md:Region.Mode)(ops:Array Oper):Nat→List Nat→Bool
 | _,[]=>true
 | k,j::t=>waitsD md ops k j && waitsC md ops j t
def lastOf:Nat→List Nat→Nat
 | k,[]=>k
 | _,j::t=>lastOf j t
theorem closed_chain{L:Array Bool}(hc:Closed md ops L):∀(t:List Nat) (k:Nat),waitsC md ops k t=true→L.getD k false=true→L.getD (lastOf k t) false=true
 | [],k,_,h=>h
 | j::t,k,hw,h=>by
  simp only [waitsC,Bool.and_eq_true]at hw
  have:=closed_chain hc t j hw.2 (closed_waitsD hw.1 hc h)
  exact this
theorem upTo_star{z i n:Nat}{B:World→Prop}{X:World}{ch:List Nat}(hw:waitsC md ops z ch=true)(hl:lastOf z ch=i)(h:Star md ops (UpTo z B) n i X):B X:=by
 obtain⟨L,hn,hc,hi,hS⟩:=h
 refine hS ?_
 cases hz:L.getD z false with
 | false=>rfl
 | true =>
  have h1:=closed_chain hc ch z hw hz
  rw [hl]at h1
  rcases Nat.lt_or_ge i L.size with h'|h'
  ·simp [h']at h1 hi;rw [hi]at h1;cases h1
  ·simp [Array.getElem?_eq_none h']at h1
end
section
variable {P:Program} {ops:Array Oper} {Q:Exit→Act→World→Prop} {md:Region.Mode}
def setAll(L:Array Bool):List Nat→Array Bool
 | []=>L
 | i::d=>(setAll L d).setIfInBounds i true
theorem setAll_at(L:Array Bool)(d:List Nat)(i:Nat):(setAll L d)[i]?=if i∈d then L[i]?.map (fun _=>true)else L[i]?:=by
 induction d with
 | nil=>simp [setAll]
 | cons j d ih =>
  unfold setAll
  rw [Array.getElem?_setIfInBounds]
  by_cases hj:j=i
  ·subst hj
   simp only [if_true,List.mem_cons,true_or]
   have hs:(setAll L d).size=L.size:=by
    clear ih
    induction d with
    | nil=>rfl
    | cons k d ih=>unfold setAll;rw [Array.size_setIfInBounds];exact ih
   split
   ·rename_i h;rw [hs]at h;simp [h]
   ·rename_i h;rw [hs]at h;simp [Array.getElem?_eq_none (Nat.le_of_not_lt h)]
  ·rw [if_neg hj,ih]
   simp [Ne.symm hj]
theorem setAll_same(L:Array Bool){d e:List Nat}(h:∀ i,i∈d ↔ i∈e):setAll L d=setAll L e:=by
 apply Array.ext_getElem?
 intro i
 rw [setAll_at,setAll_at]
 by_cases hi:i∈d
 ·rw [if_pos hi,if_pos ((h i).1 hi)]
 ·rw [if_neg hi,if_neg (fun h'=>hi ((h i).2 h'))]
theorem getD_opt(L:Array Bool)(i:Nat)(b:Bool):L.getD i b=(L[i]?).getD b:=by simp
theorem setAll_not{L:Array Bool}{d:List Nat}{i:Nat}{b:Bool}(h:i ∉ d):(setAll L d).getD i b=L.getD i b:=by
 rw [getD_opt,getD_opt,setAll_at,if_neg h]
theorem setAll_true{L:Array Bool}{d:List Nat}{i:Nat}(h:L.getD i false=true):(setAll L d).getD i false=true:=by
 rw [getD_opt]at h ⊢
 rw [setAll_at]
 split
 ·cases hi:L[i]? with
  | none=>rw [hi]at h;cases h
  | some b=>rfl
 ·exact h
theorem setAll_mem{L:Array Bool}{d:List Nat}{i:Nat}(h:i∈d):(setAll L d).getD i true=true:=by
 rw [getD_opt,setAll_at,if_pos h]
 cases L[i]? <;> rfl
def ckB(md:Region.Mode)(ops:Array Oper)(L:Array Bool)(I:List Nat)(z:Nat):Bool:=
 (List.range ops.size).all fun i=>L.getD i true || I.contains i || i == z || ((ops[i]?).map fun o=>o.after.any fun e=>Region.binds md e && !I.contains e.on && !L.getD e.on true).getD false
def ckZ(md:Region.Mode)(ops:Array Oper)(I:List Nat)(z:Nat):Bool:=
 I.all fun j=>((ops[z]?).map fun o=>o.after.any fun e=>Region.binds md e && e.on == j).getD false
def ckI(md:Region.Mode)(ops:Array Oper)(L:Array Bool)(I:List Nat):Bool:=
 I.all fun i=>!L.getD i true && ((ops[i]?).map fun o=>o.after.all fun e=>!Region.binds md e || L.getD e.on false).getD false
theorem getD_false_of{L:Array Bool}{i:Nat}(h:L.getD i true=false):L.getD i false=false:=by
 rw [getD_opt]at h ⊢
 cases hi:L[i]? with
 | none=>rw [hi]at h;cases h
 | some b=>rw [hi]at h;simpa using h
theorem lay_any{a:Act}{L:Array Bool}{I:List Nat}{z f:Nat}(hB:ckB md ops L I z=true)(hZ:ckZ md ops I z=true)(hI:ckI md ops L I=true)(St:List Nat→World→Prop)
  (hstep:∀ d i w,i∈I→i ∉ d→(∀ j∈d,j∈I)→St d w→∃ o,ops[i]?=some o∧(Region.wanted o (yielded ops a.tmps)=true)∧∀ K:Act→World→Prop,(∀ w',St (i::d) w'→K a w')→Oper.wp P o a w K Q)
  (hend:∀ d w,d.length=I.length→(∀ j,j∈d ↔ j∈I)→St d w→wpAny P md ops Q f (setAll L I) a w) :
  ∀(k:Nat) (d rest:List Nat) (w:World),rest.length=k→d.length+rest.length=I.length→(∀ j∈I,j∈d∨j∈rest)→(∀ j∈d,j∈I)→(∀ j∈rest,j∈I∧j ∉ d)→rest.Nodup→St d w→wpAny P md ops Q (k+f) (setAll L d) a w:=by
 intro k
 induction k with
 | zero =>
  intro d rest w hk hlen hcov hd hr hnd hS
  obtain rfl:=List.length_eq_zero_iff.1 hk
  have hsame:∀ j,j∈d ↔ j∈I:=fun j=>⟨hd j,fun h=>(hcov j h).elim id (fun h=>by cases h)⟩
  rw [Nat.zero_add,setAll_same L hsame]
  exact hend d w (by simpa using hlen) hsame hS
 | succ k ih =>
  intro d rest w hk hlen hcov hd hr hnd hS
  rw [show k+1+f=(k+f)+1 by omega]
  have hrd:∀ i∈rest,i∈Region.ready md ops (setAll L d):=fun i hi=>by
   have h1:=List.all_eq_true.1 hI i (hr i hi).1
   simp only [Bool.and_eq_true,Bool.not_eq_true']at h1
   cases ho:ops[i]? with
   | none=>rw [ho]at h1;simp at h1
   | some o =>
    rw [ho]at h1
    simp only [Option.map_some,Option.getD_some,Array.all_eq_true']at h1
    refine mem_ready.2 ⟨by rw [setAll_not (hr i hi).2];exact h1.1,o,ho,fun e he hb=>?_⟩
    have h2:=h1.2 e he
    rw [hb]at h2
    exact setAll_true (by simpa using h2)
  have hex:∃ i,i∈rest:=by
   cases rest with
   | nil=>simp at hk
   | cons i r=>exact⟨i,List.mem_cons_self⟩
  have hsub:∀ i∈Region.ready md ops (setAll L d),i∈rest:=fun i hi=>by
   obtain⟨hun,o,ho,hall⟩:=mem_ready.1 hi
   have hid:i ∉ d:=fun h=>by rw [setAll_mem h]at hun;cases hun
   have hL:L.getD i true=false:=by rw [setAll_not hid]at hun;exact hun
   have h1:=List.all_eq_true.1 hB i (List.mem_range.2 (Array.getElem?_eq_some_iff.1 ho).1)
   simp only [Bool.or_eq_true]at h1
   rcases h1 with((h1|h1)|h1)|h1
   ·rw [hL]at h1;cases h1
   ·rcases hcov i (by simpa using h1)with h|h
    ·exact absurd h hid
    ·exact h
   ·have hiz:=eq_of_beq h1
    subst hiz
    obtain⟨j,hj⟩:=hex
    have h2:=List.all_eq_true.1 hZ j (hr j hj).1
    rw [ho]at h2
    simp only [Option.map_some,Option.getD_some,Array.any_eq_true',Bool.and_eq_true]at h2
    obtain⟨e,he,hb,hon⟩:=h2
    have h3:=hall e he hb
    rw [eq_of_beq hon]at h3
    have h4:=(mem_ready.1 (hrd j hj)).1
    rw [getD_false_of h4]at h3
    cases h3
   ·rw [ho]at h1
    simp only [Option.map_some,Option.getD_some,Array.any_eq_true',Bool.and_eq_true,Bool.not_eq_true']at h1
    obtain⟨e,he,⟨hb,hnI⟩,hnL⟩:=h1
    have h3:=hall e he hb
    have hnd':e.on ∉ d:=fun h=>by
     have:=hd _ h
     rw [List.contains_iff_mem.2 this]at hnI
     cases hnI
    rw [setAll_not hnd',getD_false_of hnL]at h3
    cases h3
  refine⟨fun h0=>?_,fun i hi=>?_⟩
  ·obtain⟨j,hj⟩:=hex
   have:=hrd j hj
   rw [h0]at this
   cases this
  ·have hir:=hsub i hi
   obtain⟨o,ho,hw,hK⟩:=hstep d i w (hr i hir).1 (hr i hir).2 hd hS
   refine wpOp_step ho (fun K' hK'=>?_)
   rw [if_pos hw]
   refine hK _ (fun w' hS'=>hK' _ _ ?_)
   refine ih (i::d) (rest.erase i) w' ?_ ?_ ?_ ?_ ?_ ?_ hS'
   ·rw [List.length_erase_of_mem hir,hk];rfl
   ·rw [List.length_erase_of_mem hir,List.length_cons];omega
   ·intro j hj
    by_cases hji:j=i
    ·exact .inl (by rw [hji];exact List.mem_cons_self)
    ·rcases hcov j hj with h|h
     ·exact .inl (List.mem_cons_of_mem _ h)
     ·exact .inr ((List.mem_erase_of_ne hji).2 h)
   ·intro j hj
    rcases List.mem_cons.1 hj with rfl|h
    ·exact(hr _ hir).1
    ·exact hd j h
   ·intro j hj
    have hj':=List.mem_of_mem_erase hj
    refine⟨(hr j hj').1,fun h=>?_⟩
    rcases List.mem_cons.1 h with rfl|h
    ·exact(List.Nodup.not_mem_erase hnd) hj
    ·exact(hr j hj').2 h
   ·exact hnd.erase i
end
namespace Fr
section
variable {P:Program} {ops:Array Oper} {Q:Exit→Act→World→Prop} {n i z fuel:Nat} {B:World→Prop} {oi:Oper} {v:Value} {listed:Array Bool} {a:Act} {w:World}
def okB(ops:Array Oper)(listed:Array Bool)(n i z:Nat):Bool:=Region.noSelect ops && Region.free .any ops listed i && (Region.ready .any ops listed).contains i && decide (listed.size=n) && closedB .any ops listed && decide (i ≠ z)
theorem tk(h0:ops.toList[i]?=some oi)(hb:okB ops listed n i z=true)(hQ:∀ c a w,Q (.panic c) (a.put oi.dst v) w→Q (.panic c) a w)(hw:Region.wanted oi (yielded ops a.tmps)=true)
  (hy:∀ X,Star .any ops (UpTo z B) n i X→(execOp a.eval oi).run P X=.ok (.value v) X) (hS:UpTo z B listed w)
  (h:UpTo z B (listed.setIfInBounds i true) w→wpAnyG P .any ops Q (UpTo z B) fuel (listed.setIfInBounds i true) (a.put oi.dst v) w):wpAnyG P .any ops Q (UpTo z B) (fuel+1) listed a w:=by
 simp only [okB,Bool.and_eq_true,decide_eq_true_eq]at hb
 obtain⟨⟨⟨⟨⟨h1,h2⟩,h3⟩,h4⟩,h5⟩,h6⟩:=hb
 exact wpAnyG_take h0 h1 h2 h3 h4 (upTo_put h6) hQ (closed_all h5) (Or.inl ⟨hw,hy⟩) hS (fun _=>h)
theorem tkN(h0:ops.toList[i]?=some oi)(hb:okB ops listed n i z=true)(hQ:∀ c a w,Q (.panic c) (a.put oi.dst undef) w→Q (.panic c) a w)(hw:Region.wanted oi (yielded ops a.tmps)=false)(hS:UpTo z B listed w)
  (h:UpTo z B (listed.setIfInBounds i true) w→wpAnyG P .any ops Q (UpTo z B) fuel (listed.setIfInBounds i true) (a.put oi.dst undef) w):wpAnyG P .any ops Q (UpTo z B) (fuel+1) listed a w:=by
 simp only [okB,Bool.and_eq_true,decide_eq_true_eq]at hb
 obtain⟨⟨⟨⟨⟨h1,h2⟩,h3⟩,h4⟩,h5⟩,h6⟩:=hb
 exact wpAnyG_take h0 h1 h2 h3 h4 (upTo_put h6) hQ (closed_all h5) (Or.inr ⟨hw,rfl⟩) hS (fun _=>h)
end
section
variable {P:Program} {ops:Array Oper} {Q:Exit→Act→World→Prop} {n z:Nat} {B C:World→Prop} {w:World}
def wpT(P:Program)(ops:Array Oper)(C:World→Prop)(Q:Act→Prop):List Nat→Act→Prop
 | [],a=>Q a
 | i::is,a=>∃ oi,ops.toList[i]?=some oi∧((Region.wanted oi (yielded ops a.tmps)=true∧∃ v,(∀ X,C X→(execOp a.eval oi).run P X=.ok (.value v) X)∧wpT P ops C Q is (a.put oi.dst v))∨(Region.wanted oi (yielded ops a.tmps)=false∧wpT P ops C Q is (a.put oi.dst undef)))
theorem wT{F:Act→Prop}{i:Nat}{is:List Nat}{a:Act}{oi:Oper}{v:Value}(h0:ops.toList[i]?=some oi)(hw:Region.wanted oi (yielded ops a.tmps)=true)(hy:∀ X,C X→(execOp a.eval oi).run P X=.ok (.value v) X)(h:wpT P ops C F is (a.put oi.dst v)):wpT P ops C F (i::is) a:=
 ⟨oi,h0,.inl ⟨hw,v,hy,h⟩⟩
theorem wN{F:Act→Prop}{i:Nat}{is:List Nat}{a:Act}{oi:Oper}(h0:ops.toList[i]?=some oi)(hw:Region.wanted oi (yielded ops a.tmps)=false)(h:wpT P ops C F is (a.put oi.dst undef)):wpT P ops C F (i::is) a:=
 ⟨oi,h0,.inr ⟨hw,h⟩⟩
theorem wE{F:Act→Prop}{a:Act}(h:F a):wpT P ops C F [] a:=h
def manyB(ops:Array Oper)(n z:Nat):List Nat→Array Bool→Bool
 | [],_=>true
 | i::is,L=>okB ops L n i z && manyB ops n z is (L.setIfInBounds i true)
def setAll(L:Array Bool):List Nat→Array Bool
 | []=>L
 | i::is=>setAll (L.setIfInBounds i true) is
def chB(ops:Array Oper)(z:Nat):List Nat→List (List Nat)→Bool
 | [],_=>true
 | i::is,c::cs=>waitsC .any ops z c && decide (lastOf z c=i) && chB ops z is cs
 | _::_,[]=>false
theorem tkC(hQ:∀(d:Option Tmp) (v:Value) c a w,Q (.panic c) (a.put d v) w→Q (.panic c) a w):∀(is:List Nat) (fuel F:Nat) (listed:Array Bool) (a:Act),manyB ops n z is listed=true→(∀ i∈is,∀ X,Star .any ops (UpTo z B) n i X→C X)→F=fuel+is.length→UpTo z B listed w →
  wpT P ops C (fun a'=>UpTo z B (setAll listed is) w→wpAnyG P .any ops Q (UpTo z B) fuel (setAll listed is) a' w) is a→wpAnyG P .any ops Q (UpTo z B) F listed a w
 | [],fuel,F,listed,a,_,_,hF,hS,h=>by subst hF;exact h hS
 | i::is,fuel,F,listed,a,hm,hC,hF,hS,h=>by
  obtain⟨oi,h0,h1⟩:=h
  simp only [manyB,Bool.and_eq_true]at hm
  have hF2:F=(fuel+is.length)+1:=by simp only [List.length_cons]at hF;omega
  subst hF2
  have hC2:∀ j∈is,∀ X,Star .any ops (UpTo z B) n j X→C X:=fun j hj=>hC j (List.mem_cons_of_mem _ hj)
  rcases h1 with⟨hw,v,hy,h2⟩|⟨hw,h2⟩
  ·exact tk h0 hm.1 (hQ _ _) hw (fun X hX=>hy X (hC i (List.mem_cons_self ..) X hX)) hS (fun hS2=>tkC hQ is fuel _ _ _ hm.2 hC2 rfl hS2 h2)
  ·exact tkN h0 hm.1 (hQ _ _) hw hS (fun hS2=>tkC hQ is fuel _ _ _ hm.2 hC2 rfl hS2 h2)
theorem ch_star:∀(is:List Nat) (cs:List (List Nat)),chB ops z is cs=true→∀ i∈is,∀ X,Star .any ops (UpTo z B) n i X→B X
 | [],_,_,i,hi,_,_=>by cases hi
 | j::is,[],h,i,hi,_,_=>by cases h
 | j::is,c::cs,h,i,hi,X,hX=>by
  simp only [chB,Bool.and_eq_true,decide_eq_true_eq]at h
  rcases List.mem_cons.1 hi with rfl|hi
  ·exact upTo_star h.1.1 h.1.2 hX
  ·exact ch_star is cs h.2 i hi X hX
theorem tkB{is:List Nat}(cs:List (List Nat)){k fuel:Nat}{listed:Array Bool}{a:Act}(hk:is.length=k)(hb:(manyB ops n z is listed && chB ops z is cs)=true)(hS:UpTo z B listed w)
  (h:wpT P ops B (fun a'=>UpTo z B (setAll listed is) w→wpAnyG P .any ops Q (UpTo z B) fuel (setAll listed is) a' w) is a) (hQ:∀(d:Option Tmp) (v:Value) c a w,Q (.panic c) (a.put d v) w→Q (.panic c) a w:=by intro d _ _ _ _ h;cases d <;> exact h):wpAnyG P .any ops Q (UpTo z B) (fuel+k) listed a w:=by
 simp only [Bool.and_eq_true]at hb
 exact tkC hQ is fuel _ listed a hb.1 (ch_star is cs hb.2) (by rw [hk]) hS h
theorem tkM{is:List Nat}{k fuel:Nat}{listed:Array Bool}{a:Act}(hk:is.length=k)(hb:manyB ops n z is listed=true)(hS:UpTo z B listed w)
  (h:wpT P ops (fun _=>True) (fun a'=>UpTo z B (setAll listed is) w→wpAnyG P .any ops Q (UpTo z B) fuel (setAll listed is) a' w) is a) (hQ:∀(d:Option Tmp) (v:Value) c a w,Q (.panic c) (a.put d v) w→Q (.panic c) a w:=by intro d _ _ _ _ h;cases d <;> exact h):wpAnyG P .any ops Q (UpTo z B) (fuel+k) listed a w:=
 tkC hQ is fuel _ listed a hb (fun _ _ _ _=>trivial) (by rw [hk]) hS h
end
end Fr
end Go.Proofs.YthkegfdijohpaaaGreatDoor
