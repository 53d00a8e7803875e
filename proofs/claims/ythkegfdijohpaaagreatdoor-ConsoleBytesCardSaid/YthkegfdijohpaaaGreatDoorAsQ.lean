/- Instructions by plain definitions: a word's fields,an instruction's word,its line,and what a line's text is read as by the program and by the document. No program in sight. Conditions: numbers lie in their bounds. -/
import Derived.Test.YthkegfdijohpaaaGreatDoorTokI
import Derived.Lib.AtoiAllCases
import Derived.Lib.Split
import Derived.Lib.SplitLaws
import Derived.Lib.IndexLaws
import Derived.Lib.IndexMore
import Derived.Lib.CountLaws
import Derived.Lib.Strings
namespace Go.Proofs.YthkegfdijohpaaaGreatDoor
set_option linter.all false
namespace As
structure Ins where
  f:Int
  u:Bool
  v:Bool
  a:Int
  b:Int
  c:Int
  op:Int
  n:Int
def ext(m:Int)(x:Int):Int:=if m≤2 * (x % m)then x % m - m else x % m
def fl(b:Bool):Int:=if b then 1 else 0
def raw(z:Int):Ins:=
  let f:=z / 1073741824
  let u:=decide (z / 536870912 % 2=1)
  let v:=decide (z / 268435456 % 2=1)
  let a:=z / 16777216 % 16
  if f=0 then⟨f,u,v,a,z / 1048576 % 16,z % 16,z / 65536 % 16,0⟩
  else if f=1 then⟨f,u,v,a,z / 1048576 % 16,0,z / 65536 % 16,z % 65536⟩
  else if f=2 then⟨f,u,v,a,z / 1048576 % 16,0,0,ext 1048576 z⟩
  else if u=true then⟨f,u,v,a,0,0,0,ext 16777216 z⟩
  else⟨f,u,v,a,0,z % 16,0,0⟩
def opU(op:Int):Prop:=op=0∨(8≤op∧op≤10)
def Good(x:Ins):Prop:=
  (0≤x.a∧x.a<16∧0≤x.b∧x.b<16∧0≤x.c∧x.c<16∧0≤x.op∧x.op≤11) ∧
  ((x.f=0∧x.n=0∧(x.v=true→x.u=true∧x.op=0)∧(x.u=true→opU x.op)) ∨
   (x.f=1∧x.c=0∧0≤x.n∧x.n<65536∧(x.u=true→opU x.op)) ∨
   (x.f=2∧x.c=0∧x.op=0 ∧ -524288≤x.n∧x.n<524288) ∨
   (x.f=3∧x.b=0∧x.op=0∧(x.u=true→x.c=0 ∧ -8388608≤x.n∧x.n<8388608)∧(x.u=false→x.n=0)))
instance (op:Int):Decidable (opU op):=by unfold opU;infer_instance
instance (x:Ins):Decidable (Good x):=by unfold Good;infer_instance
def low(x:Ins):Int:=
  if x.f=3 then x.c+x.n % 16777216
  else x.b * 1048576+(if x.f=2 then x.n % 1048576 else x.op * 65536+x.c+x.n)
def enc(x:Ins):Int:=x.f * 1073741824+fl x.u * 536870912+fl x.v * 268435456+x.a * 16777216+low x
theorem low_lt{x:Ins}(h:Good x):0≤low x∧low x<16777216:=by
  obtain⟨⟨a0,a1,b0,b1,c0,c1,o0,o1⟩,h⟩:=h
  unfold low
  rcases h with⟨hf,h⟩|⟨hf,h⟩|⟨hf,h⟩|⟨hf,h1,h2,h3,h4⟩
  · rw [hf,if_neg (by decide),if_neg (by decide)];omega
  · rw [hf,if_neg (by decide),if_neg (by decide)];omega
  · rw [hf,if_neg (by decide),if_pos rfl];omega
  · rw [hf,if_pos rfl]
    cases hu:x.u
    · have:=h4 hu;omega
    · have:=h3 hu;omega
theorem good_f{x:Ins}(h:Good x):0≤x.f∧x.f≤3:=by
  obtain⟨_,h⟩:=h
  rcases h with⟨hf,_⟩|⟨hf,_⟩|⟨hf,_⟩|⟨hf,_⟩ <;> omega
theorem fl_le(b:Bool):0≤fl b∧fl b≤1:=by cases b <;> decide
theorem enc_lt{x:Ins}(h:Good x):0≤enc x∧enc x<4294967296:=by
  have:=low_lt h
  have:=good_f h
  have:=fl_le x.u
  have:=fl_le x.v
  have h1:=h.1
  unfold enc
  omega
theorem raw_enc{x:Ins}(h:Good x):raw (enc x)=x:=by
  have hl:=low_lt h
  have hf:=good_f h
  have hu:=fl_le x.u
  have hv:=fl_le x.v
  have h1:=h.1
  have ef:enc x / 1073741824=x.f:=by unfold enc;omega
  have eu:decide (enc x / 536870912 % 2=1)=x.u:=by
    cases hx:x.u
    · simp only [enc,hx,fl];rw [decide_eq_false];simp;omega
    · simp only [enc,hx,fl];rw [decide_eq_true];simp;omega
  have ev:decide (enc x / 268435456 % 2=1)=x.v:=by
    cases hx:x.v
    · simp only [enc,hx,fl];rw [decide_eq_false];simp;generalize (if x.u=true then(1:Int)else 0)=q;omega
    · simp only [enc,hx,fl];rw [decide_eq_true];simp;generalize (if x.u=true then(1:Int)else 0)=q;omega
  have ea:enc x / 16777216 % 16=x.a:=by unfold enc;omega
  have em:enc x % 16777216=low x:=by unfold enc;omega
  unfold raw
  simp only [ef,eu,ev,ea]
  generalize enc x=z at *
  obtain⟨f,u,v,a,b,c,op,n⟩:=x
  obtain⟨_,h⟩:=h
  simp only at *
  unfold low at em hl
  simp only at *
  rcases h with⟨rfl,rfl,h⟩|⟨rfl,rfl,h⟩|⟨rfl,rfl,rfl,h⟩|⟨rfl,rfl,rfl,h3,h4⟩
  · simp only [show ¬(0:Int)=3 by decide,show ¬(0:Int)=2 by decide,if_false,if_true,reduceIte]at *
    rw [show z / 1048576 % 16=b by omega,show z % 16=c by omega,show z / 65536 % 16=op by omega]
  · simp only [show ¬(1:Int)=3 by decide,show ¬(1:Int)=2 by decide,show ¬(1:Int)=0 by decide,if_false,if_true,reduceIte]at *
    rw [show z / 1048576 % 16=b by omega,show z % 65536=n by omega,show z / 65536 % 16=op by omega]
  · simp only [show ¬(2:Int)=3 by decide,show ¬(2:Int)=1 by decide,show ¬(2:Int)=0 by decide,if_false,if_true,reduceIte]at *
    rw [show z / 1048576 % 16=b by omega,show ext 1048576 z=n by unfold ext;split <;> omega]
  · simp only [show ¬(3:Int)=2 by decide,show ¬(3:Int)=1 by decide,show ¬(3:Int)=0 by decide,if_false,if_true,reduceIte]at *
    cases u
    · have:=h4 rfl
      subst this
      simp only [Bool.false_eq_true,if_false]
      rw [show z % 16=c by omega]
    · obtain⟨rfl,h5,h6⟩:=h3 rfl
      simp only [if_true]
      rw [show ext 16777216 z=n by unfold ext;split <;> omega]
def dec(z:Int):Option Ins:=if Good (raw z)∧enc (raw z)=z then some (raw z)else none
theorem dec_enc{x:Ins}(h:Good x):dec (enc x)=some x:=by
  unfold dec
  rw [raw_enc h,if_pos ⟨h,rfl⟩]
theorem dec_some{z:Int}{x:Ins}(h:dec z=some x):Good x∧enc x=z∧raw z=x:=by
  unfold dec at h
  split at h
  · rename_i hg
    simp only [Option.some.injEq]at h
    exact⟨h ▸ hg.1,h ▸ hg.2,h⟩
  · cases h
/-! names -/
def ops:List (List UInt8):=[[77,79,86],[76,83,76],[65,83,82],[82,79,82],[65,78,68],[65,78,78],[73,79,82],[88,79,82],[65,68,68],[83,85,66],[77,85,76],[68,73,86]]
def conds:List (List UInt8):=[[77,73],[69,81],[67,83],[86,83],[76,83],[76,84],[76,69],[84],[80,76],[78,69],[67,67],[86,67],[72,73],[71,69],[71,84],[70]]
def mark(u v:Bool):List UInt8:=(if u then [39]else [])++(if v then [34]else [])
def mem(u v:Bool):List UInt8:=(if u then [83,84]else [76,68])++(if v then [66]else [82])
def jump(v:Bool):List UInt8:=if v then [66,76,46]else [66,46]
def name(x:Ins):List UInt8:=
  if x.f=3 then jump x.v++conds.getD x.a.toNat []
  else if x.f=2 then mem x.u x.v
  else ops.getD x.op.toNat []++mark x.u x.v
def reg(n:Int):List UInt8:=82::Lib.itoa n
def rest(x:Ins):List UInt8:=
  if x.f=3 then(if x.u then Lib.itoa x.n else reg x.c)
  else reg x.a++[44,32]++(reg x.b++[44,32]++(if x.f=0 then reg x.c else Lib.itoa x.n))
def lineI(x:Ins):List UInt8:=name x++32::rest x
def lineF(z:Int):Option (List UInt8):=(dec z).map lineI
end As
namespace As
/-! texts cut at a byte,or at two -/
theorem occ_here(a s t:List UInt8):Lib.occAt (a++(s++t)) s a.length=true:=by
  unfold Lib.occAt
  rw [List.drop_left]
  rw [List.isPrefixOf_iff_prefix]
  exact List.prefix_append s t
theorem occ_no{a t:List UInt8}{c:UInt8}{s':List UInt8}(h:c ∉ a)(j:Nat)(hj:j<a.length):Lib.occAt (a++t) (c::s') j=false:=by
  unfold Lib.occAt
  rw [List.drop_append_of_le_length (by omega),List.drop_eq_getElem_cons hj,List.cons_append]
  simp only [List.isPrefixOf]
  rw [show(c == a[j])=false by rw [beq_eq_false_iff_ne];rintro rfl;exact h (List.getElem_mem _)]
  rfl
theorem index_at{a t:List UInt8}{c:UInt8}{s':List UInt8}(h:c ∉ a):Lib.index (a++(c::s'++t)) (c::s')=a.length:=
  Lib.index_first (by simp) (occ_here a (c::s') t) (fun j hj=>occ_no h j hj)
theorem index_never{a:List UInt8}{c:UInt8}{s':List UInt8}(h:c ∉ a):Lib.index a (c::s') = -1:=by
  refine Lib.index_none fun j hj=>?_
  by_cases hl:j<a.length
  · have:=occ_no (t:=[]) (s':=s') h j hl
    simpa using this
  · unfold Lib.occAt
    rw [List.drop_eq_nil_of_le (by omega)]
    rfl
theorem cut_at{a t:List UInt8}{c:UInt8}(s':List UInt8)(h:c ∉ a):Lib.cut (a++(c::s'++t)) (c::s')=(a,t,true):=by
  unfold Lib.cut
  rw [index_at h,if_pos (by omega)]
  simp only [Int.toNat_natCast,List.take_left]
  rw [← List.length_append,← List.append_assoc,List.drop_left]
theorem cut_never{a:List UInt8}{c:UInt8}(s':List UInt8)(h:c ∉ a):Lib.cut a (c::s')=(a,[],false):=by
  unfold Lib.cut
  rw [index_never h,if_neg (by decide)]
theorem split_at{a t:List UInt8}{c:UInt8}(s':List UInt8)(h:c ∉ a):Lib.split (a++(c::s'++t)) (c::s')=a::Lib.split t (c::s'):=by
  unfold Lib.split
  have hi:=index_at (t:=t) (s':=s') h
  rw [Lib.count_hit (by simp) hi,Nat.add_comm,Lib.splitK,if_neg (by rw [hi,beq_iff_eq];omega),hi]
  simp only [Int.toNat_natCast,Nat.add_zero,List.take_left]
  rw [← List.length_append,← List.append_assoc,List.drop_left]
theorem split_never{a:List UInt8}{c:UInt8}(s':List UInt8)(h:c ∉ a):Lib.split a (c::s')=[a]:=by
  unfold Lib.split
  rw [Lib.count_miss (index_never h)]
  rfl
/-! numbers -/
theorem fold_le(l:List UInt8)(a:Nat):a≤l.foldl (fun n c=>n * 10+Tk.dig c) a:=by
  induction l generalizing a with
  | nil=>exact Nat.le_refl _
  | cons c t ih=>exact Nat.le_trans (by omega) (ih (a * 10+Tk.dig c))
theorem parse_digits(l:List UInt8):∀(a:Nat),(∀ c∈l,Tk.digit c=true)→l.foldl (fun n c=>n * 10+Tk.dig c) a<18446744073709551616→Lib.parseUint10 a l=.ok (l.foldl (fun n c=>n * 10+Tk.dig c) a):=by
  induction l with
  | nil=>intro a _ _;rfl
  | cons c t ih =>
    intro a hd hv
    have hc:=hd c (List.mem_cons_self ..)
    have hc':48≤c.toNat∧c.toNat≤57:=by simpa [Tk.digit]using hc
    have he:Tk.dig c=c.toNat - 48:=by unfold Tk.dig;rw [if_pos hc'.2]
    rw [List.foldl_cons]at hv ⊢
    have hle:=fold_le t (a * 10+Tk.dig c)
    rw [Lib.parseUint10,if_pos hc',if_neg (by omega),if_neg (by omega),← he]
    exact ih _ (fun x hx=>hd x (List.mem_cons_of_mem _ hx)) hv
theorem mag_dec(u:Nat)(h:u<18446744073709551616):Lib.parseMag (Tk.decN u)=.ok u:=by
  obtain⟨h1,h2,h3⟩:=Tk.decN_facts u
  unfold Lib.parseMag
  rw [if_neg h3]
  have:=parse_digits (Tk.decN u) 0 h2 (by show Tk.val 10 _ < _;rw [h1];exact h)
  rw [this]
  show Lib.NumEnd.ok (Tk.val 10 (Tk.decN u))=_
  rw [h1]
theorem itoa_pos{n:Int}(h:0≤n):Lib.itoa n=Tk.decN n.toNat:=by
  unfold Lib.itoa
  rw [if_neg (by omega),Tk.dec_eq]
theorem itoa_neg{n:Int}(h:n<0):Lib.itoa n=45::Tk.decN (-n).toNat:=by
  unfold Lib.itoa
  rw [if_pos h,Tk.dec_eq]
  rw [show n.natAbs=(-n).toNat by omega]
theorem atoi_dec(u:Nat)(h:u<9223372036854775808):Lib.atoiAll (Tk.decN u)=.ok (u:Int):=by
  obtain⟨h1,h2,h3⟩:=Tk.decN_facts u
  have hm:=mag_dec u (by omega)
  cases hl:Tk.decN u with
  | nil=>exact absurd hl h3
  | cons c t =>
    have hc:=h2 c (by rw [hl];exact List.mem_cons_self ..)
    have hc':48≤c.toNat∧c.toNat≤57:=by simpa [Tk.digit]using hc
    rw [hl]at hm
    simp only [Lib.atoiAll]
    rw [if_neg (by omega),hm]
    simp only
    rw [if_neg (by omega),if_neg (by omega)]
    simp;omega
theorem atoi_itoa(n:Int)(h0 : -9223372036854775808<n)(h1:n<9223372036854775808):Lib.atoiAll (Lib.itoa n)=.ok n:=by
  by_cases h:n<0
  · rw [itoa_neg h]
    have hm:=mag_dec (-n).toNat (by omega)
    simp only [Lib.atoiAll]
    rw [if_pos (by decide),hm]
    simp
    rw [if_neg (by omega),show -max (-n) 0=n by omega]
  · rw [itoa_pos (by omega),atoi_dec _ (by omega)]
    rw [Int.toNat_of_nonneg (by omega)]
theorem itoa_bytes(n:Int):∀ c∈Lib.itoa n,c=45∨Tk.digit c=true:=by
  intro c hc
  by_cases h:n<0
  · rw [itoa_neg h]at hc
    rcases List.mem_cons.1 hc with h|h
    · exact .inl h
    · exact .inr ((Tk.decN_facts _).2.1 c h)
  · rw [itoa_pos (by omega)]at hc
    exact .inr ((Tk.decN_facts _).2.1 c hc)
theorem itoa_ne(n:Int):Lib.itoa n ≠ []:=by
  by_cases h:n<0
  · rw [itoa_neg h];simp
  · rw [itoa_pos (by omega)];exact(Tk.decN_facts _).2.2
theorem itoa_not{n:Int}{c:UInt8}(h:c ≠ 45∧Tk.digit c=false):c ∉ Lib.itoa n:=by
  intro hc
  rcases itoa_bytes n c hc with h'|h'
  · exact h.1 h'
  · rw [h.2]at h';cases h'
theorem reg_not{n:Int}{c:UInt8}(h:c ≠ 45∧Tk.digit c=false)(h2:c ≠ 82):c ∉ reg n:=by
  intro hc
  rcases List.mem_cons.1 hc with h'|h'
  · exact h2 h'
  · exact itoa_not h h'
theorem itoa_len(n:Int)(h0 : -100000000<n)(h1:n<100000000):(Lib.itoa n).length≤9:=by
  by_cases h:n<0
  · rw [itoa_neg h,List.length_cons]
    have:=Tk.decN_len (-n).toNat 7 (by omega)
    omega
  · rw [itoa_pos (by omega)]
    have:=Tk.decN_len n.toNat 7 (by omega)
    omega
theorem reg_len(n:Int)(h0:0≤n)(h1:n<16):(reg n).length≤3:=by
  unfold reg
  rw [List.length_cons,itoa_pos h0]
  have:=Tk.decN_len n.toNat 1 (by omega)
  omega
/-! names -/
abbrev Shape:Type:=Int × Int × Bool × Bool
def of(x:Ins):Shape:=if x.f=3 then(3,x.a,false,x.v)else if x.f=2 then(2,0,x.u,x.v)else(0,x.op,x.u,x.v)
def tab:List (List UInt8 × Shape):=
  (ops.zipIdx.flatMap fun p=>[(p.1++mark false false,(0,(p.2:Int),false,false)),(p.1++mark true false,(0,(p.2:Int),true,false)),(p.1++mark false true,(0,(p.2:Int),false,true)),(p.1++mark true true,(0,(p.2:Int),true,true))]) ++
  [(mem false false,(2,0,false,false)),(mem true false,(2,0,true,false)),(mem false true,(2,0,false,true)),(mem true true,(2,0,true,true))] ++
  (conds.zipIdx.flatMap fun p=>[(jump false++p.1,(3,(p.2:Int),false,false)),(jump true++p.1,(3,(p.2:Int),false,true))])
def look(s:List UInt8):Option Nat:=tab.findIdx? fun e=>e.1 == s
def seek(k:Shape):Option Nat:=tab.findIdx? fun e=>e.2 == k
theorem tab_len:tab.length=84:=by decide +kernel
theorem tab_look:∀ i:Fin 84,look (tab[i]!).1=some i:=by decide +kernel
theorem tab_seek:∀ i:Fin 84,seek (tab[i]!).2=some i:=by decide +kernel
theorem tab_plain:∀ e∈tab,(32:UInt8) ∉ e.1∧e.1.length≤5:=by decide +kernel
theorem tab_ops:∀ i:Fin 12,∀ u v:Bool,(ops.getD i.1 []++mark u v,((0:Int),(i.1:Int),u,v))∈tab:=by decide +kernel
theorem tab_mem:∀ u v:Bool,(mem u v,((2:Int),(0:Int),u,v))∈tab:=by decide +kernel
theorem tab_conds:∀ i:Fin 16,∀ v:Bool,(jump v++conds.getD i.1 [],((3:Int),(i.1:Int),false,v))∈tab:=by decide +kernel
theorem name_reg{x:Ins}(h3:x.f ≠ 3)(h2:x.f ≠ 2):name x=ops.getD x.op.toNat []++mark x.u x.v∧of x=(0,x.op,x.u,x.v):=by
  unfold name of
  rw [if_neg h3,if_neg h2,if_neg h3,if_neg h2]
  exact⟨rfl,rfl⟩
theorem name_mem{x:Ins}(h2:x.f=2):name x=mem x.u x.v∧of x=(2,0,x.u,x.v):=by
  have h3:x.f ≠ 3:=by omega
  unfold name of
  rw [if_neg h3,if_pos h2,if_neg h3,if_pos h2]
  exact⟨rfl,rfl⟩
theorem name_jump{x:Ins}(h3:x.f=3):name x=jump x.v++conds.getD x.a.toNat []∧of x=(3,x.a,false,x.v):=by
  unfold name of
  rw [if_pos h3,if_pos h3]
  exact⟨rfl,rfl⟩
theorem name_in{x:Ins}(h:Good x):(name x,of x)∈tab:=by
  obtain⟨⟨a0,a1,b0,b1,c0,c1,o0,o1⟩,h⟩:=h
  obtain⟨i,hi⟩:=Int.eq_ofNat_of_zero_le o0
  obtain⟨j,hj⟩:=Int.eq_ofNat_of_zero_le a0
  rcases h with⟨hf,h⟩|⟨hf,h⟩|⟨hf,h⟩|⟨hf,h1,h2,h3,h4⟩
  · obtain⟨e1,e2⟩:=name_reg (x:=x) (by omega) (by omega)
    rw [e1,e2,hi]
    exact tab_ops ⟨i,by omega⟩ x.u x.v
  · obtain⟨e1,e2⟩:=name_reg (x:=x) (by omega) (by omega)
    rw [e1,e2,hi]
    exact tab_ops ⟨i,by omega⟩ x.u x.v
  · obtain⟨e1,e2⟩:=name_mem (x:=x) hf
    rw [e1,e2]
    exact tab_mem x.u x.v
  · obtain⟨e1,e2⟩:=name_jump (x:=x) hf
    rw [e1,e2,hj]
    exact tab_conds ⟨j,by omega⟩ x.v
theorem tab_at{e:List UInt8 × Shape}(h:e∈tab):∃ i,i<84∧tab[i]?=some e∧look e.1=some i∧seek e.2=some i:=by
  obtain⟨i,hi,he⟩:=List.mem_iff_getElem.1 h
  have hl:i<84:=by rw [tab_len]at hi;exact hi
  have h1:=tab_look ⟨i,hl⟩
  have h2:=tab_seek ⟨i,hl⟩
  simp only [Fin.getElem!_fin,getElem!_pos tab i hi,he]at h1 h2
  exact⟨i,hl,by rw [List.getElem?_eq_getElem hi,he],h1,h2⟩
theorem look_lt{s:List UInt8}{i:Nat}(h:look s=some i):∃ k,tab[i]?=some (s,k)∧i<84:=by
  unfold look at h
  rw [List.findIdx?_eq_some_iff_getElem]at h
  obtain⟨hi,h1,_⟩:=h
  refine⟨(tab[i]).2,?_,by rw [tab_len]at hi;exact hi⟩
  rw [List.getElem?_eq_getElem hi,← eq_of_beq h1]
/-! the program's way -/
def opd(s:List UInt8):Option (Int × Bool):=match Lib.atoiAll (Lib.trimPrefix s [82])with | .ok n=>some (n,Lib.hasPrefix s [82])|_=>none
def opds:List (List UInt8)→Option (List (Int × Bool))
  | []=>some []
  | s::t=>match opd s,opds t with|some p,some r=>some (p::r)|_,_=>none
def build(k:Shape)(l:List (Int × Bool)):Option Ins:=
  match l with
  | [(n,r)]=>if k.1=3 then some ⟨3,!r,k.2.2.2,k.2.1,0,if r then n else 0,0,if r then 0 else n⟩else none
  | [(p,_),(q,_),(n,r)]=>if k.1=3 then none else some ⟨if k.1=0∧r=false then 1 else k.1,k.2.2.1,k.2.2.2,p,q,if r then n else 0,k.2.1,if r then 0 else n⟩
  | _=>none
def wordP(s:List UInt8):Option Ins:=
  if 40<s.length then none
  else match look (Lib.cut s [32]).1 with
    | none=>none
    | some i=>match tab[i]? with
      | none=>none
      | some e=>match opds (Lib.split (Lib.cut s [32]).2.1 [44,32])with
        | none=>none
        | some l=>build e.2 l
theorem opd_itoa(n:Int)(h0 : -9223372036854775808<n)(h1:n<9223372036854775808):opd (Lib.itoa n)=some (n,false):=by
  have hp:Lib.hasPrefix (Lib.itoa n) [82]=false:=by
    cases hl:Lib.itoa n with
    | nil=>rfl
    | cons c t =>
      have:c ≠ 82:=by rintro rfl;exact itoa_not (n:=n) (c:=82) ⟨by decide,by decide⟩ (by rw [hl];exact List.mem_cons_self ..)
      simp [Lib.hasPrefix,List.isPrefixOf,this.symm]
  unfold opd Lib.trimPrefix
  rw [hp,if_neg (by decide),atoi_itoa n h0 h1]
theorem opd_reg(n:Int)(h0 : -9223372036854775808<n)(h1:n<9223372036854775808):opd (reg n)=some (n,true):=by
  have hp:Lib.hasPrefix (reg n) [82]=true:=by simp [Lib.hasPrefix,reg,List.isPrefixOf]
  unfold opd Lib.trimPrefix
  rw [hp,if_pos rfl]
  show(match Lib.atoiAll (Lib.itoa n)with | .ok n=>some (n,true)|_=>none)=_
  rw [atoi_itoa n h0 h1]
theorem good_bd{x:Ins}(h:Good x) : -100000000<x.n∧x.n<100000000∧0≤x.a∧x.a<16∧0≤x.b∧x.b<16∧0≤x.c∧x.c<16:=by
  obtain⟨⟨a0,a1,b0,b1,c0,c1,o0,o1⟩,h⟩:=h
  rcases h with⟨hf,h⟩|⟨hf,h⟩|⟨hf,h⟩|⟨hf,h1,h2,h3,h4⟩
  · omega
  · omega
  · omega
  · cases hu:x.u
    · have:=h4 hu;omega
    · have:=h3 hu;omega
theorem name_facts{x:Ins}(h:Good x):(32:UInt8) ∉ name x∧(name x).length≤5:=tab_plain _ (name_in h)
theorem rest_len{x:Ins}(h:Good x):(rest x).length≤19:=by
  obtain⟨n0,n1,a0,a1,b0,b1,c0,c1⟩:=good_bd h
  have ha:=reg_len x.a a0 a1
  have hb:=reg_len x.b b0 b1
  have hc:=reg_len x.c c0 c1
  have hn:=itoa_len x.n n0 n1
  unfold rest
  split
  · split <;> omega
  · split <;> simp only [List.length_append,List.length_cons,List.length_nil] <;> omega
theorem line_len{x:Ins}(h:Good x):(lineI x).length≤25:=by
  have h1:=(name_facts h).2
  have h2:=rest_len h
  unfold lineI
  simp only [List.length_append,List.length_cons]
  omega
theorem line_cut{x:Ins}(h:Good x):Lib.cut (lineI x) [32]=(name x,rest x,true):=cut_at [] (name_facts h).1
theorem comma_itoa(n:Int):(44:UInt8) ∉ Lib.itoa n:=itoa_not ⟨by decide,by decide⟩
theorem comma_reg(n:Int):(44:UInt8) ∉ reg n:=reg_not ⟨by decide,by decide⟩ (by decide)
theorem wordP_line{x:Ins}(h:Good x):wordP (lineI x)=some x:=by
  obtain⟨i,hi,hat,hlook,_⟩:=tab_at (name_in h)
  have hl:=line_len h
  obtain⟨n0,n1,a0,a1,b0,b1,c0,c1⟩:=good_bd h
  have oa:=opd_reg x.a (by omega) (by omega)
  have ob:=opd_reg x.b (by omega) (by omega)
  have oc:=opd_reg x.c (by omega) (by omega)
  have on:=opd_itoa x.n (by omega) (by omega)
  unfold wordP
  rw [if_neg (by omega),line_cut h]
  simp only at hlook hat ⊢
  rw [hlook]
  simp only
  rw [hat]
  simp only
  have hg:=h
  obtain⟨_,h⟩:=h
  have hpl:∀ a t:List UInt8,(44:UInt8) ∉ a→Lib.split (a++[44,32]++t) [44,32]=a::Lib.split t [44,32]:=by
    intro a t ha
    rw [List.append_assoc]
    exact split_at [32] ha
  obtain⟨f,u,v,a,b,c,op,n⟩:=x
  simp only at *
  rcases h with⟨rfl,rfl,h⟩|⟨rfl,rfl,h⟩|⟨rfl,rfl,rfl,h⟩|⟨rfl,rfl,rfl,h3,h4⟩
  · have hr:rest ⟨0,u,v,a,b,c,op,0⟩=reg a++[44,32]++(reg b++[44,32]++reg c):=rfl
    rw [hr,hpl _ _ (comma_reg a),hpl _ _ (comma_reg b),split_never [32] (comma_reg c)]
    simp only [opds,oa,ob,oc]
    rfl
  · have hr:rest ⟨1,u,v,a,b,0,op,n⟩=reg a++[44,32]++(reg b++[44,32]++Lib.itoa n):=rfl
    rw [hr,hpl _ _ (comma_reg a),hpl _ _ (comma_reg b),split_never [32] (comma_itoa n)]
    simp only [opds,oa,ob,on]
    rfl
  · have hr:rest ⟨2,u,v,a,b,0,0,n⟩=reg a++[44,32]++(reg b++[44,32]++Lib.itoa n):=rfl
    rw [hr,hpl _ _ (comma_reg a),hpl _ _ (comma_reg b),split_never [32] (comma_itoa n)]
    simp only [opds,oa,ob,on]
    rfl
  · cases u
    · have:=h4 rfl
      subst this
      have hr:rest ⟨3,false,v,a,0,c,0,0⟩=reg c:=rfl
      rw [hr,split_never [32] (comma_reg c)]
      simp only [opds,oc]
      rfl
    · obtain⟨rfl,h5,h6⟩:=h3 rfl
      have hr:rest ⟨3,true,v,a,0,0,0,n⟩=Lib.itoa n:=rfl
      rw [hr,split_never [32] (comma_itoa n)]
      simp only [opds,on]
      rfl
/-! what comes of it -/
def done(s:List UInt8):Option Ins→Int × Int
  | none=>(0,60)
  | some x=>if Good x∧lineF (enc x)=some s then(enc x,0)else(0,60)
theorem done_none{s:List UInt8}(h:¬ ∃ x,Good x∧lineI x=s)(o:Option Ins):done s o=(0,60):=by
  cases o with
  | none=>rfl
  | some x =>
    simp only [done]
    rw [if_neg]
    rintro⟨hg,hl⟩
    unfold lineF at hl
    rw [dec_enc hg]at hl
    simp only [Option.map_some,Option.some.injEq]at hl
    exact h ⟨x,hg,hl⟩
theorem lineF_enc{x:Ins}(h:Good x):lineF (enc x)=some (lineI x):=by
  unfold lineF
  rw [dec_enc h]
  rfl
theorem done_line{x:Ins}(h:Good x):done (lineI x) (some x)=(enc x,0):=by
  simp only [done]
  rw [if_pos ⟨h,lineF_enc h⟩]
def wordF(s:List UInt8):Int × Int:=done s (wordP s)
theorem word_line{z:Int}{s:List UInt8}(h:lineF z=some s):wordF s=(z,0):=by
  unfold lineF at h
  cases hd:dec z with
  | none=>rw [hd]at h;cases h
  | some x =>
    rw [hd]at h
    simp only [Option.map_some,Option.some.injEq]at h
    subst h
    obtain⟨hg,he,_⟩:=dec_some hd
    unfold wordF
    rw [wordP_line hg,done_line hg,he]
theorem line_word{s:List UInt8}{z:Int}(h:wordF s=(z,0)):lineF z=some s∧0≤z∧z<4294967296:=by
  by_cases hs:∃ x,Good x∧lineI x=s
  · obtain⟨x,hg,rfl⟩:=hs
    have:wordF (lineI x)=(enc x,0):=by unfold wordF;rw [wordP_line hg,done_line hg]
    rw [this]at h
    simp only [Prod.mk.injEq,and_true]at h
    subst h
    refine⟨?_,enc_lt hg⟩
    unfold lineF
    rw [dec_enc hg]
    rfl
  · unfold wordF at h
    rw [done_none hs]at h
    simp at h
theorem word_no{s:List UInt8}(h:∀ z,lineF z ≠ some s):wordF s=(0,60):=by
  refine done_none ?_ _
  rintro⟨x,hg,hl⟩
  refine h (enc x) ?_
  unfold lineF
  rw [dec_enc hg,← hl]
  rfl
/-! the document's way -/
def numR(s:List UInt8):Int × Bool:=
  let t:=if s.head?=some 45 then s.tail else s
  if t.length<1∨9<t.length then(0,false)
  else if t.all Tk.digit=false then(0,false)
  else
    let n:Int:=if s.head?=some 45 then -(Tk.val 10 t:Int)else(Tk.val 10 t:Int)
    (n,decide (Lib.itoa n=s))
def regR(s:List UInt8):Int × Bool:=
  if s.length<2∨s.head? ≠ some 82 then(0,false)else((numR s.tail).1,(numR s.tail).2 && decide (0≤(numR s.tail).1) && decide ((numR s.tail).1≤15))
def find(l:List (List UInt8))(s:List UInt8):Int:=match l.findIdx? (· == s)with|some i=>i|none => -1
def mems:List (List UInt8):=[[76,68,82],[76,68,66],[83,84,82],[83,84,66]]
def chop(c:UInt8)(s:List UInt8):List UInt8 × Bool:=if s.getLast?=some c then(s.dropLast,true)else(s,false)
def partsR(nm:List UInt8):Option Ins:=
  if 0≤find mems nm then some ⟨2,decide (1<find mems nm),decide ((find mems nm) % 2=1),0,0,0,0,0⟩
  else
    let p:=Lib.cut nm [46]
    if p.2.2=true then
      if 0≤find conds p.2.1∧(p.1=[66]∨p.1=[66,76])then some ⟨3,false,decide (p.1=[66,76]),find conds p.2.1,0,0,0,0⟩else none
    else
      let v:=chop 34 nm
      let u:=chop 39 v.1
      if 0≤find ops u.1 then some ⟨0,u.2,v.2,0,0,0,find ops u.1,0⟩else none
def buildR(x:Ins)(rs:List UInt8):Option Ins:=
  if x.f=3 then
    if (regR rs).2=false∧(numR rs).2=false then none
    else some ⟨3,!(regR rs).2,x.v,x.a,x.b,(regR rs).1,x.op,if (regR rs).2 then 0 else(numR rs).1⟩
  else
    let p:=Lib.cut rs [44,32]
    let q:=Lib.cut p.2.1 [44,32]
    let last:=q.2.1
    if (regR p.1).2=false∨(regR q.1).2=false∨((regR last).2=false∧(numR last).2=false)∨((regR last).2=true∧x.f=2)then none
    else if (regR last).2=true then some ⟨x.f,x.u,x.v,(regR p.1).1,(regR q.1).1,(regR last).1,x.op,x.n⟩
    else some ⟨if x.f=0 then 1 else x.f,x.u,x.v,(regR p.1).1,(regR q.1).1,x.c,x.op,(numR last).1⟩
def wordR(s:List UInt8):Option Ins:=
  if 60<s.length then none
  else
    let p:=Lib.cut s [32]
    if p.2.2=false then none
    else match partsR p.1 with
      | none=>none
      | some x=>buildR x p.2.1
theorem numR_itoa(n:Int)(h0 : -100000000<n)(h1:n<100000000):numR (Lib.itoa n)=(n,true):=by
  by_cases h:n<0
  · obtain⟨e1,e2,e3⟩:=Tk.decN_facts (-n).toNat
    have hl:=Tk.decN_len (-n).toNat 7 (by omega)
    have hp:=List.length_pos_iff.2 e3
    unfold numR
    rw [itoa_neg h]
    simp only [List.head?_cons,if_true,List.tail_cons]
    rw [if_neg (by omega),if_neg (by rw [List.all_eq_true.2 e2];decide),e1]
    have hn : -(((-n).toNat:Nat):Int)=n:=by omega
    rw [hn,itoa_neg h]
    simp
  · obtain⟨e1,e2,e3⟩:=Tk.decN_facts n.toNat
    have hl:=Tk.decN_len n.toNat 7 (by omega)
    have hp:=List.length_pos_iff.2 e3
    have hh:¬(Tk.decN n.toNat).head?=some 45:=by
      cases hc:Tk.decN n.toNat with
      | nil=>simp
      | cons c t =>
        have:=e2 c (by rw [hc];exact List.mem_cons_self ..)
        simp only [List.head?_cons,Option.some.injEq]
        rintro rfl
        revert this;decide
    unfold numR
    rw [itoa_pos (by omega)]
    simp only [if_neg hh]
    rw [if_neg (by omega),if_neg (by rw [List.all_eq_true.2 e2];decide),e1]
    have hn:((n.toNat:Nat):Int)=n:=by omega
    rw [hn,itoa_pos (by omega)]
    simp
theorem regR_reg(n:Int)(h0:0≤n)(h1:n<16):regR (reg n)=(n,true):=by
  have hp:=List.length_pos_iff.2 (itoa_ne n)
  unfold regR reg
  rw [if_neg (by simp;omega)]
  simp only [List.tail_cons,numR_itoa n (by omega) (by omega)]
  simp;omega
theorem regR_itoa(n:Int):regR (Lib.itoa n)=(0,false):=by
  unfold regR
  rw [if_pos]
  refine .inr ?_
  cases hc:Lib.itoa n with
  | nil=>simp
  | cons c t =>
    simp only [List.head?_cons,ne_eq,Option.some.injEq]
    rintro rfl
    exact itoa_not (n:=n) (c:=82) ⟨by decide,by decide⟩ (by rw [hc];exact List.mem_cons_self ..)
theorem parts_ops:∀ i:Fin 12,∀ u v:Bool,partsR (ops.getD i.1 []++mark u v)=some ⟨0,u,v,0,0,0,(i.1:Int),0⟩:=by
  intro i u v
  have:∀ i:Fin 12,∀ u v:Bool,(find mems (ops.getD i.1 []++mark u v) = -1∧(Lib.cut (ops.getD i.1 []++mark u v) [46]).2.2=false ∧
    (chop 34 (ops.getD i.1 []++mark u v)).2=v∧(chop 39 (chop 34 (ops.getD i.1 []++mark u v)).1).2=u∧find ops (chop 39 (chop 34 (ops.getD i.1 []++mark u v)).1).1=i.1):=by decide +kernel
  obtain⟨h1,h2,h3,h4,h5⟩:=this i u v
  unfold partsR
  simp only [h1,h2,h3,h4,h5]
  rw [if_neg (by decide),if_neg (by decide),if_pos (by omega)]
theorem parts_mem:∀ u v:Bool,partsR (mem u v)=some ⟨2,u,v,0,0,0,0,0⟩:=by
  intro u v
  cases u <;> cases v <;> rfl
theorem parts_conds:∀ i:Fin 16,∀ v:Bool,partsR (jump v++conds.getD i.1 [])=some ⟨3,false,v,(i.1:Int),0,0,0,0⟩:=by
  intro i v
  have:∀ i:Fin 16,∀ v:Bool,(find mems (jump v++conds.getD i.1 []) = -1∧(Lib.cut (jump v++conds.getD i.1 []) [46])=(if v then [66,76]else [66],conds.getD i.1 [],true)∧find conds (conds.getD i.1 [])=i.1):=by decide +kernel
  obtain⟨h1,h2,h3⟩:=this i v
  unfold partsR
  simp only [h1,h2,h3]
  rw [if_neg (by decide),if_pos trivial,if_pos ⟨by omega,by cases v <;> simp⟩]
  cases v <;> rfl
theorem wordR_line{x:Ins}(h:Good x):wordR (lineI x)=some x:=by
  have hl:=line_len h
  obtain⟨n0,n1,a0,a1,b0,b1,c0,c1⟩:=good_bd h
  have oa:=regR_reg x.a (by omega) (by omega)
  have ob:=regR_reg x.b (by omega) (by omega)
  have oc:=regR_reg x.c (by omega) (by omega)
  have on:=numR_itoa x.n (by omega) (by omega)
  have or:=regR_itoa x.n
  unfold wordR
  rw [if_neg (by omega),line_cut h]
  simp only [Bool.true_eq_false,if_false]
  obtain⟨⟨_,_,_,_,_,_,o0,o1⟩,h⟩:=h
  obtain⟨i,hi⟩:=Int.eq_ofNat_of_zero_le o0
  obtain⟨j,hj⟩:=Int.eq_ofNat_of_zero_le a0
  have hpl:∀ a t:List UInt8,(44:UInt8) ∉ a→Lib.cut (a++[44,32]++t) [44,32]=(a,t,true):=by
    intro a t ha
    rw [List.append_assoc]
    exact cut_at [32] ha
  obtain⟨f,u,v,a,b,c,op,n⟩:=x
  simp only at *
  rcases h with⟨rfl,rfl,h⟩|⟨rfl,rfl,h⟩|⟨rfl,rfl,rfl,h⟩|⟨rfl,rfl,rfl,h3,h4⟩
  · have hr:rest ⟨0,u,v,a,b,c,op,0⟩=reg a++[44,32]++(reg b++[44,32]++reg c):=rfl
    have hn:name ⟨0,u,v,a,b,c,op,0⟩=ops.getD op.toNat []++mark u v:=rfl
    rw [hr,hn,hi]
    rw [show ops.getD (i:Int).toNat []=ops.getD i []from rfl,parts_ops ⟨i,by omega⟩ u v]
    simp only [buildR,hpl _ _ (comma_reg a),hpl _ _ (comma_reg b),oa,ob,oc]
    rfl
  · have hr:rest ⟨1,u,v,a,b,0,op,n⟩=reg a++[44,32]++(reg b++[44,32]++Lib.itoa n):=rfl
    have hn:name ⟨1,u,v,a,b,0,op,n⟩=ops.getD op.toNat []++mark u v:=rfl
    rw [hr,hn,hi]
    rw [show ops.getD (i:Int).toNat []=ops.getD i []from rfl,parts_ops ⟨i,by omega⟩ u v]
    simp only [buildR,hpl _ _ (comma_reg a),hpl _ _ (comma_reg b),oa,ob,on,or]
    rfl
  · have hr:rest ⟨2,u,v,a,b,0,0,n⟩=reg a++[44,32]++(reg b++[44,32]++Lib.itoa n):=rfl
    have hn:name ⟨2,u,v,a,b,0,0,n⟩=mem u v:=rfl
    rw [hr,hn,parts_mem u v]
    simp only [buildR,hpl _ _ (comma_reg a),hpl _ _ (comma_reg b),oa,ob,on,or]
    rfl
  · have hn:∀ u n c,name ⟨3,u,v,a,0,c,0,n⟩=jump v++conds.getD a.toNat []:=fun _ _ _=>rfl
    have hp:=parts_conds ⟨j,by omega⟩ v
    cases u
    · have:=h4 rfl
      subst this
      have hr:rest ⟨3,false,v,a,0,c,0,0⟩=reg c:=rfl
      rw [hr,hn,hj]
      rw [show conds.getD (j:Int).toNat []=conds.getD j []from rfl,hp]
      simp only [buildR,oc]
      rfl
    · obtain⟨rfl,h5,h6⟩:=h3 rfl
      have hr:rest ⟨3,true,v,a,0,0,0,n⟩=Lib.itoa n:=rfl
      rw [hr,hn,hj]
      rw [show conds.getD (j:Int).toNat []=conds.getD j []from rfl,hp]
      simp only [buildR,on,or]
      rfl
theorem wordR_eq(s:List UInt8):done s (wordR s)=wordF s:=by
  by_cases h:∃ x,Good x∧lineI x=s
  · obtain⟨x,hg,rfl⟩:=h
    unfold wordF
    rw [wordR_line hg,wordP_line hg]
  · unfold wordF
    rw [done_none h,done_none h]
end As
end Go.Proofs.YthkegfdijohpaaaGreatDoor
