/- Commands as lines of text,plain: a line's words,numbers,bytes as digits;what is read and what is written. No program in sight. Conditions: none. -/
import Derived.Test.YthkegfdijohpaaaGreatDoorAsR
namespace Go.Proofs.YthkegfdijohpaaaGreatDoor
set_option linter.all false
namespace Cn
/-! words -/
def cutW:List UInt8→List (List UInt8)
 | []=>[[]]
 | c::t=>if c=32 then []::cutW t else match cutW t with|[]=>[[c]]|l::ls=>(c::l)::ls
def joinW:List (List UInt8)→List UInt8
 | []=>[]
 | [l]=>l
 | l::m::ls=>l++32::joinW (m::ls)
theorem cutW_ne(s:List UInt8):∃ l ls,cutW s=l::ls:=by
 induction s with
 | nil=>exact⟨[],[],rfl⟩
 | cons c t ih =>
  obtain⟨l,ls,h⟩:=ih
  unfold cutW
  split
  ·exact⟨_,_,rfl⟩
  ·rw [h];exact⟨_,_,rfl⟩
theorem joinW_cutW(s:List UInt8):joinW (cutW s)=s:=by
 induction s with
 | nil=>rfl
 | cons c t ih =>
  obtain⟨l,ls,h⟩:=cutW_ne t
  unfold cutW
  split
  ·rename_i hc;rw [h,hc];rw [h]at ih;simp [joinW,ih]
  ·rw [h];rw [h]at ih
   cases ls with
   | nil=>simpa [joinW]using ih
   | cons m ls=>simpa [joinW]using ih
theorem cutW_none(a:List UInt8)(h:(32:UInt8) ∉ a):cutW a=[a]:=by
 induction a with
 | nil=>rfl
 | cons c t ih =>
  have hc:c ≠ 32:=fun e=>h (by rw [e];exact List.mem_cons_self ..)
  simp [cutW,hc,ih fun hm=>h (List.mem_cons_of_mem _ hm)]
theorem cutW_at(a t:List UInt8)(h:(32:UInt8) ∉ a):cutW (a++32::t)=a::cutW t:=by
 induction a with
 | nil=>simp [cutW]
 | cons c r ih =>
  have hc:c ≠ 32:=fun e=>h (by rw [e];exact List.mem_cons_self ..)
  simp [cutW,hc,ih fun hm=>h (List.mem_cons_of_mem _ hm)]
/-! numbers -/
def numC(s:List UInt8):Option Int:=
 if 1≤s.length∧s.length≤9∧¬(1<s.length∧s.head?=some 48)∧s.all Tk.digit=true then some (Tk.val 10 s:Nat)else none
theorem digit_iff(c:UInt8):Tk.digit c=true ↔ 48≤c.toNat∧c.toNat≤57:=by simp [Tk.digit]
theorem dig_le{c:UInt8}(h:Tk.digit c=true):Tk.dig c<10∧UInt8.ofNat (48+Tk.dig c)=c:=by
 have h2:=(digit_iff c).1 h
 have:Tk.dig c=c.toNat - 48:=by unfold Tk.dig;rw [if_pos h2.2]
 rw [this]
 refine⟨by omega,?_⟩
 rw [show 48+(c.toNat - 48)=c.toNat by omega]
 simp
theorem decN_zero:Tk.decN 0=[48]:=by rw [Tk.decN,dif_pos (by omega)];rfl
theorem dec_val(n:Nat):∀ s:List UInt8,s.length=n→(∀ c∈s,Tk.digit c=true)→s ≠ []→(s.length=1∨s.head? ≠ some 48)→Tk.decN (Tk.val 10 s)=s:=by
 induction n with
 | zero=>intro s hl _ hne;exact absurd (List.eq_nil_of_length_eq_zero hl) hne
 | succ n ih =>
  intro s hl hd hne hz
  obtain⟨t,c,rfl⟩:∃ t c,s=t++[c]:=⟨s.dropLast,s.getLast hne,(List.dropLast_concat_getLast hne).symm⟩
  have hc:=hd c (by simp)
  obtain⟨hc1,hc2⟩:=dig_le hc
  rw [Tk.val_snoc]
  by_cases ht:t=[]
  ·subst ht
   show Tk.decN (Tk.val 10 [] * 10+Tk.dig c)=[c]
   rw [show Tk.val 10 []=0 from rfl,Nat.zero_mul,Nat.zero_add,Tk.decN,dif_pos hc1,hc2]
  ·have hh:t.head? ≠ some 48:=by
    rcases hz with h|h
    ·simp at h;exact absurd h ht
    ·cases t with
     | nil=>exact absurd rfl ht
     | cons x y=>simpa using h
   have h1:=ih t (by simpa using hl) (fun x hx=>hd x (by simp [hx])) ht (.inr hh)
   have hp:0<Tk.val 10 t:=by
    rcases Nat.eq_zero_or_pos (Tk.val 10 t)with h|h
    ·rw [h,decN_zero]at h1
     rw [← h1]at hh
     exact absurd rfl hh
    ·exact h
   rw [Tk.decN,dif_neg (by omega),show(Tk.val 10 t * 10+Tk.dig c) / 10=Tk.val 10 t by omega,show(Tk.val 10 t * 10+Tk.dig c) % 10=Tk.dig c by omega,h1,hc2]
theorem dec_head(k:Nat):∀ n,n≤k→0<n→(Tk.decN n).head? ≠ some 48:=by
 induction k with
 | zero=>intro n h0 h1;omega
 | succ k ih =>
  intro n hn h1
  by_cases h:n<10
  ·rw [Tk.decN,dif_pos h]
   have h9:n=1∨n=2∨n=3∨n=4∨n=5∨n=6∨n=7∨n=8∨n=9:=by omega
   rcases h9 with rfl|rfl|rfl|rfl|rfl|rfl|rfl|rfl|rfl <;> decide
  ·rw [Tk.decN,dif_neg h]
   have h2:=ih (n / 10) (by omega) (by omega)
   have h3:=(Tk.decN_facts (n / 10)).2.2
   cases hd:Tk.decN (n / 10)with
   | nil=>exact absurd hd h3
   | cons x y=>rw [hd]at h2;simpa using h2
theorem num_ok{s:List UInt8}{n:Int}(h:numC s=some n):Lib.itoa n=s∧0≤n∧n<1000000000∧(32:UInt8) ∉ s:=by
 unfold numC at h
 split at h
 ·rename_i hh
  obtain⟨h1,h2,h3,h4⟩:=hh
  simp only [Option.some.injEq]at h
  have hd:∀ c∈s,Tk.digit c=true:=by simpa using h4
  have hne:s ≠ []:=by rintro rfl;simp at h1
  have hz:s.length=1∨s.head? ≠ some 48:=by
   by_cases hl:1<s.length
   ·exact .inr fun e=>h3 ⟨hl,e⟩
   ·exact .inl (by omega)
  have hv:=dec_val s.length s rfl hd hne hz
  subst h
  have hlt:∀ l:List UInt8,(∀ c∈l,Tk.digit c=true)→Tk.val 10 l<10 ^ l.length:=by
   intro l
   induction hn:l.length generalizing l with
   | zero=>intro _;rw [List.eq_nil_of_length_eq_zero hn];decide
   | succ m ih =>
    intro hd
    have hne:l ≠ []:=by rintro rfl;simp at hn
    obtain⟨t,c,rfl⟩:∃ t c,l=t++[c]:=⟨l.dropLast,l.getLast hne,(List.dropLast_concat_getLast hne).symm⟩
    have:=ih t (by simpa using hn) (fun x hx=>hd x (by simp [hx]))
    have hc:=(dig_le (hd c (by simp))).1
    rw [Tk.val_snoc,Nat.pow_succ]
    omega
  have hb:=hlt s hd
  have hb2:10 ^ s.length≤10 ^ 9:=Nat.pow_le_pow_right (by decide) h2
  refine⟨?_,by omega,by simp at hb2;omega,fun hm=>?_⟩
  ·rw [As.itoa_pos (by omega)];simpa using hv
  ·have:=hd 32 hm;simp [Tk.digit]at this
 ·cases h
theorem num_itoa{n:Int}(h0:0≤n)(h1:n<1000000000):numC (Lib.itoa n)=some n:=by
 obtain⟨e1,e2,e3⟩:=Tk.decN_facts n.toNat
 rw [As.itoa_pos h0]
 have hl:=Tk.decN_len n.toNat 8 (by omega)
 unfold numC
 rw [if_pos]
 ·rw [e1];simp;omega
 ·refine⟨?_,by omega,?_,by simpa using e2⟩
  ·cases hd:Tk.decN n.toNat with
   | nil=>exact absurd hd e3
   | cons x y=>simp
  ·rintro⟨h2,h3⟩
   by_cases hz:0<n.toNat
   ·exact dec_head n.toNat n.toNat (Nat.le_refl _) hz h3
   ·rw [show n.toNat=0 by omega,decN_zero]at h2
    simp at h2
theorem num_neg{n:Int}(h:n<0):numC (Lib.itoa n)=none:=by
 rw [As.itoa_neg h]
 unfold numC
 rw [if_neg]
 rintro⟨_,_,_,h4⟩
 simp [Tk.digit]at h4
/-! bytes as digits -/
def two(c:UInt8):List UInt8:=[As.lx (c.toNat / 16),As.lx (c.toNat % 16)]
def hexC(t:List UInt8):List UInt8:=if t=[]then [45]else t.flatMap two
def pairs:List UInt8→Option (List UInt8)
 | []=>some []
 | [_]=>none
 | a::b::t=>match As.ux a,As.ux b,pairs t with|some x,some y,some r=>some (UInt8.ofNat (x * 16+y)::r)|_,_,_=>none
def bytesC(s:List UInt8):Option (List UInt8):=if s=[45]then some []else if s=[]then none else pairs s
theorem pairs_two(t:List UInt8):pairs (t.flatMap two)=some t:=by
 induction t with
 | nil=>rfl
 | cons c t ih =>
  have h1:=(As.lx_facts ⟨c.toNat / 16,by have:=c.toNat_lt;omega⟩).1
  have h2:=(As.lx_facts ⟨c.toNat % 16,by omega⟩).1
  simp only at h1 h2
  simp only [List.flatMap_cons,two,List.cons_append,List.nil_append,pairs,h1,h2,ih]
  rw [show c.toNat / 16 * 16+c.toNat % 16=c.toNat by omega]
  simp
theorem two_pairs(n:Nat):∀ s t:List UInt8,s.length≤n→pairs s=some t→t.flatMap two=s:=by
 induction n with
 | zero=>intro s t hl h;have:=List.eq_nil_of_length_eq_zero (Nat.le_zero.1 hl);subst this;simp [pairs]at h;subst h;rfl
 | succ n ih =>
  intro s t hl h
  match s,hl,h with
  | [],_,h=>simp [pairs]at h;subst h;rfl
  | [_],_,h=>simp [pairs]at h
  | a::b::r,hl,h =>
   simp only [pairs]at h
   cases ha:As.ux a with
   | none=>simp [ha]at h
   | some x =>
    cases hb:As.ux b with
    | none=>simp [ha,hb]at h
    | some y =>
     cases hr:pairs r with
     | none=>simp [ha,hb,hr]at h
     | some q =>
      simp only [ha,hb,hr,Option.some.injEq]at h
      subst h
      obtain⟨x1,x2⟩:=As.ux_lt ha
      obtain⟨y1,y2⟩:=As.ux_lt hb
      have hi:=ih r q (by simp at hl;omega) hr
      have hm:(UInt8.ofNat (x * 16+y)).toNat=x * 16+y:=by
       rw [UInt8.toNat_ofNat'];omega
      simp only [List.flatMap_cons,two,hm,hi]
      rw [show(x * 16+y) / 16=x by omega,show(x * 16+y) % 16=y by omega,x2,y2]
      rfl
theorem pairs_even(n:Nat):∀ s:List UInt8,s.length≤n→s.length % 2 ≠ 0→pairs s=none:=by
 induction n with
 | zero=>intro s hl h;have:=List.eq_nil_of_length_eq_zero (Nat.le_zero.1 hl);subst this;simp at h
 | succ n ih =>
  intro s hl h
  match s,hl,h with
  | [],_,h=>simp at h
  | [_],_,_=>rfl
  | a::b::r,hl,h =>
   have:=ih r (by simp at hl;omega) (by simp at h;omega)
   simp only [pairs,this]
   split <;> simp_all
theorem bytes_hex(t:List UInt8):bytesC (hexC t)=some t:=by
 unfold hexC
 split
 ·rename_i h;subst h;rfl
 ·rename_i h
  unfold bytesC
  cases t with
  | nil=>exact absurd rfl h
  | cons c t =>
   have hne:¬((c::t).flatMap two=[45]):=by simp [two]
   have hne2:¬((c::t).flatMap two=[]):=by simp [two]
   rw [if_neg hne,if_neg hne2,pairs_two]
theorem hex_bytes{s t:List UInt8}(h:bytesC s=some t):hexC t=s:=by
 unfold bytesC at h
 split at h
 ·rename_i hs;subst hs;simp at h;subst h;rfl
 ·split at h
  ·cases h
  ·rename_i h1 h2
   have:=two_pairs s.length s t (Nat.le_refl _) h
   unfold hexC
   rw [if_neg]
   ·exact this
   ·rintro rfl;simp at this;exact h2 this
theorem hex_plain(t:List UInt8):(32:UInt8) ∉ hexC t:=by
 unfold hexC
 split
 ·decide
 ·intro h
  obtain⟨c,_,hc⟩:=List.mem_flatMap.1 h
  have hl:∀ d:Fin 16,As.lx d.1 ≠ 32:=by decide
  simp only [two,List.mem_cons,List.not_mem_nil,or_false]at hc
  rcases hc with hc|hc
  ·exact hl ⟨c.toNat / 16,by have:=c.toNat_lt;omega⟩ hc.symm
  ·exact hl ⟨c.toNat % 16,by omega⟩ hc.symm
theorem hex_len(t:List UInt8):(hexC t).length=if t=[]then 1 else 2 * t.length:=by
 unfold hexC
 split
 ·rfl
 ·have:∀ l:List UInt8,(l.flatMap two).length=2 * l.length:=by
   intro l;induction l with
   | nil=>rfl
   | cons c t ih=>simp only [List.flatMap_cons,List.length_append,ih,two,List.length_cons,List.length_nil];omega
  exact this t
/-! names -/
def letter(c:UInt8):Bool:=decide (97≤c.toNat∧c.toNat≤122) || decide (65≤c.toNat∧c.toNat≤90)
def inName(c:UInt8):Bool:=letter c || decide (48≤c.toNat∧c.toNat≤57) || decide (c.toNat=46)
def nameC(s:List UInt8):Bool:=match s with|[]=>false|c::_=>decide (s.length≤24) && letter c && s.all inName
theorem name_plain{s:List UInt8}(h:nameC s=true):(32:UInt8) ∉ s:=by
 unfold nameC at h
 split at h
 ·cases h
 ·intro hm
  simp only [Bool.and_eq_true,List.all_eq_true]at h
  have:=h.2 32 hm
  simp [inName,letter]at this
/-! commands -/
structure Cm where
 op:Int
 name:List UInt8
 text:List UInt8
 fuel:Int
 words:Int
 stack:Int
instance (a b:Cm):Decidable (a=b):=decidable_of_iff (a.op=b.op∧a.name=b.name∧a.text=b.text∧a.fuel=b.fuel∧a.words=b.words∧a.stack=b.stack) (by
 obtain⟨a1,a2,a3,a4,a5,a6⟩:=a
 obtain⟨b1,b2,b3,b4,b5,b6⟩:=b
 simp)
def zero:Cm:=⟨0,[],[],0,0,0⟩
def kWrite:List UInt8:=[119,114,105,116,101]
def kDelete:List UInt8:=[100,101,108,101,116,101]
def kCompile:List UInt8:=[99,111,109,112,105,108,101]
def kLoad:List UInt8:=[108,111,97,100]
def kRun:List UInt8:=[114,117,110]
def cmdW(l:List (List UInt8)):Option Cm:=
 match l with
 | [k,n]=>if k=kDelete∧nameC n=true then some ⟨2,n,[],0,0,0⟩else if k=kCompile∧nameC n=true then some ⟨3,n,[],0,0,0⟩else none
 | [k,n,t] =>
  if k=kWrite then match bytesC t with|some b=>if nameC n=true then some ⟨1,n,b,0,0,0⟩else none|none=>none
  else if k=kRun then match numC n,bytesC t with|some z,some b=>some ⟨5,[],b,z,0,0⟩|_,_=>none
  else none
 | [k,n,a,b]=>if k=kLoad∧nameC n=true then match numC a,numC b with|some x,some y=>some ⟨4,n,[],0,x,y⟩|_,_=>none else none
 | _=>none
def parseC(s:List UInt8):Option Cm:=cmdW (cutW s)
def wordsC(c:Cm):List (List UInt8):=
 if c.op=1 then [kWrite,c.name,hexC c.text]
 else if c.op=2 then [kDelete,c.name]
 else if c.op=3 then [kCompile,c.name]
 else if c.op=4 then [kLoad,c.name,Lib.itoa c.words,Lib.itoa c.stack]
 else if c.op=5 then [kRun,Lib.itoa c.fuel,hexC c.text]
 else []
def buildC(c:Cm):List UInt8:=joinW (wordsC c)
def lineC(c:Cm):Option (List UInt8):=if parseC (buildC c)=some c then some (buildC c)else none
theorem cmd_words{l:List (List UInt8)}{c:Cm}(h:cmdW l=some c):wordsC c=l:=by
 unfold cmdW at h
 split at h
 ·split at h
  ·rename_i hk;simp at h;subst h;simp [wordsC,hk.1]
  ·split at h
   ·rename_i hk;simp at h;subst h;simp [wordsC,hk.1]
   ·cases h
 ·split at h
  ·rename_i hk
   split at h
   ·rename_i b hb
    split at h
    ·simp at h;subst h;simp [wordsC,hk,hex_bytes hb]
    ·cases h
   ·cases h
  ·split at h
   ·rename_i hk
    split at h
    ·rename_i z b hz hb
     simp at h;subst h;simp [wordsC,hk,hex_bytes hb,(num_ok hz).1]
    ·cases h
   ·cases h
 ·split at h
  ·rename_i hk
   split at h
   ·rename_i x y hx hy
    simp at h;subst h;simp [wordsC,hk.1,(num_ok hx).1,(num_ok hy).1]
   ·cases h
  ·cases h
 ·cases h
theorem parse_build{s:List UInt8}{c:Cm}(h:parseC s=some c):buildC c=s:=by
 unfold parseC at h
 unfold buildC
 rw [cmd_words h,joinW_cutW]
theorem parse_line{s:List UInt8}{c:Cm}(h:parseC s=some c):lineC c=some s:=by
 have hb:=parse_build h
 unfold lineC
 rw [hb,if_pos h]
theorem line_parse{s:List UInt8}{c:Cm}(h:lineC c=some s):parseC s=some c:=by
 unfold lineC at h
 split at h
 ·rename_i hp;simp at h;rw [← h];exact hp
 ·cases h
theorem write_parse(n t:List UInt8)(hn:nameC n=true):parseC (buildC ⟨1,n,t,0,0,0⟩)=some ⟨1,n,t,0,0,0⟩:=by
 have hp:=name_plain hn
 unfold parseC
 have e:cutW (buildC ⟨1,n,t,0,0,0⟩)=[kWrite,n,hexC t]:=by
  show cutW (kWrite++32::(n++32::hexC t))=_
  rw [cutW_at _ _ (by decide),cutW_at _ _ hp,cutW_none _ (hex_plain t)]
 rw [e]
 simp [cmdW,bytes_hex,hn]
theorem run_parse(z:Int)(t:List UInt8)(h0:0≤z)(h1:z<1000000000):parseC (buildC ⟨5,[],t,z,0,0⟩)=some ⟨5,[],t,z,0,0⟩:=by
 have hz:=num_itoa h0 h1
 have hp:=(num_ok hz).2.2.2
 unfold parseC
 have e:cutW (buildC ⟨5,[],t,z,0,0⟩)=[kRun,Lib.itoa z,hexC t]:=by
  show cutW (kRun++32::(Lib.itoa z++32::hexC t))=_
  rw [cutW_at _ _ (by decide),cutW_at _ _ hp,cutW_none _ (hex_plain t)]
 rw [e]
 have hk:¬(kRun=kWrite):=by decide
 simp [cmdW,bytes_hex,hz,hk]
end Cn
end Go.Proofs.YthkegfdijohpaaaGreatDoor
