/- A text with blanks and a comment ahead of each token has the same tokens but for places. No program in sight. Tokens that were written one by one,with blanks between them,are read -/
import Derived.Test.YtlhmkfcbldghfaaGreatDoorTkA
import Derived.Laws.BytesArg
import Derived.Laws.BitsAllLaws
import Derived.Lib.Case
import Derived.Lib.ItoaNum
namespace Go.Proofs.YtlhmkfcbldghfaaGreatDoor
set_option linter.all false
namespace Tk
end Tk
namespace Tk
def joinS:List (List UInt8)→List UInt8
 | []=>[]
 | [s]=>s
 | s::t::u=>s++32::joinS (t::u)
end Tk
namespace Tk
def decN(n:Nat):List UInt8:=if h:n<10 then [UInt8.ofNat (48+n)]else decN (n / 10)++[UInt8.ofNat (48+n % 10)]
termination_by n
decreasing_by omega
def hx(n:Nat):UInt8:=if n<10 then UInt8.ofNat (48+n)else UInt8.ofNat (55+n)
def hexN(n:Nat):List UInt8:=if h:n<16 then [hx n]else hexN (n / 16)++[hx (n % 16)]
termination_by n
decreasing_by omega
theorem val_snoc(b:Nat)(l:List UInt8)(c:UInt8):val b (l++[c])=val b l * b+dig c:=by simp [val]
theorem dig_dec(n:Nat)(h:n<10):dig (UInt8.ofNat (48+n))=n∧digit (UInt8.ofNat (48+n))=true:=by
 have:n=0∨n=1∨n=2∨n=3∨n=4∨n=5∨n=6∨n=7∨n=8∨n=9:=by omega
 rcases this with rfl|rfl|rfl|rfl|rfl|rfl|rfl|rfl|rfl|rfl <;> decide
theorem dig_hex(n:Nat)(h:n<16):dig (hx n)=n∧hexa (hx n)=true∧(digit (hx n)=decide (n<10))∧((57<(hx n).toNat)=(10≤n)):=by
 have:n=0∨n=1∨n=2∨n=3∨n=4∨n=5∨n=6∨n=7∨n=8∨n=9∨n=10∨n=11∨n=12∨n=13∨n=14∨n=15:=by omega
 rcases this with rfl|rfl|rfl|rfl|rfl|rfl|rfl|rfl|rfl|rfl|rfl|rfl|rfl|rfl|rfl|rfl <;> decide
theorem decN_facts(n:Nat):val 10 (decN n)=n∧(∀ c∈decN n,digit c=true)∧decN n ≠ []:=by
 induction n using Nat.strongRecOn with
 | _ n ih =>
  rw [decN]
  split
  ·rename_i h
   have:=dig_dec n h
   refine⟨by(show 0 * 10+dig _=n);rw [this.1];omega,?_,by simp⟩
   intro c hc
   rw [List.mem_singleton.1 hc];exact this.2
  ·rename_i h
   obtain⟨h1,h2,h3⟩:=ih (n / 10) (by omega)
   have:=dig_dec (n % 10) (by omega)
   refine⟨?_,?_,by simp⟩
   ·rw [val_snoc,h1,this.1];omega
   ·intro c hc
    rcases List.mem_append.1 hc with hc|hc
    ·exact h2 c hc
    ·rw [List.mem_singleton.1 hc];exact this.2
theorem hexN_facts(n:Nat):val 16 (hexN n)=n∧(∀ c∈hexN n,hexa c=true)∧hexN n ≠ []:=by
 induction n using Nat.strongRecOn with
 | _ n ih =>
  rw [hexN]
  split
  ·rename_i h
   have:=dig_hex n h
   refine⟨by(show 0 * 16+dig _=n);rw [this.1];omega,?_,by simp⟩
   intro c hc
   rw [List.mem_singleton.1 hc];exact this.2.1
  ·rename_i h
   obtain⟨h1,h2,h3⟩:=ih (n / 16) (by omega)
   have:=dig_hex (n % 16) (by omega)
   refine⟨?_,?_,by simp⟩
   ·rw [val_snoc,h1,this.1];omega
   ·intro c hc
    rcases List.mem_append.1 hc with hc|hc
    ·exact h2 c hc
    ·rw [List.mem_singleton.1 hc];exact this.2.1
def hexed(n:Nat)(always:Bool):List UInt8:=
 match hexN n with
 | []=>[]
 | c::t=>if (always || decide (57<c.toNat))=true then 48::c::t else c::t
theorem hexed_facts(n:Nat)(a:Bool):val 16 (hexed n a)=n∧(∀ c∈hexed n a,hexa c=true)∧∃ c t,hexed n a=c::t∧digit c=true:=by
 obtain⟨h1,h2,h3⟩:=hexN_facts n
 unfold hexed
 match hl:hexN n,h3 with
 | c::t,_ =>
  rw [hl]at h1 h2
  simp only
  split
  ·refine⟨by simpa [val,dig]using h1,?_,48,c::t,rfl,by decide⟩
   intro x hx
   rcases List.mem_cons.1 hx with rfl|hx
   ·decide
   ·exact h2 x hx
  ·rename_i hn
   refine⟨h1,h2,c,t,rfl,?_⟩
   have hc:=h2 c (List.mem_cons_self ..)
   simp only [Bool.or_eq_true,decide_eq_true_eq,not_or]at hn
   simp only [hexa,digit,Bool.or_eq_true,Bool.and_eq_true,decide_eq_true_eq]at hc ⊢
   omega
def spell(kd:Int)(w:List UInt8)(n:Int):List UInt8:=
 if kd=3 then(if n<0 then hexed (n % 4294967296).toNat true++[72]else decN n.toNat)
 else if kd=4 then hexed (n % 4294967296).toNat false++[88]
 else if kd=5 then 34::(w++[34])
 else w
theorem digit_no{c:UInt8}(h:digit c=true):letter c=false∧c ≠ 34∧c ≠ 40∧hexa c=true:=by
 simp only [digit,Bool.and_eq_true,decide_eq_true_eq]at h
 refine⟨?_,?_,?_,by simp [hexa,digit,h]⟩
 ·simp only [letter,Bool.or_eq_false_iff,Bool.and_eq_false_iff,decide_eq_false_iff_not]
  omega
 ·rintro rfl;revert h;decide
 ·rintro rfl;revert h;decide
theorem tok_digit{c:UInt8}{t:List UInt8}(h:digit c=true):tokF (c::t)=numT (c::t):=by
 have:=digit_no h
 unfold tokF
 simp only
 rw [if_neg (by simp [this.1]),if_pos h]
theorem tw_self(p:UInt8→Bool)(l:List UInt8)(h:∀ c∈l,p c=true):l.takeWhile p=l:=by
 have:=tw_of p (x:=l) (z:=[]) h (fun c t e=>by cases e)
 simpa using this
theorem num_dec(n:Nat):tokF (decN n)=if n<2147483648 then .ok (3,[],(n:Int),(decN n).length)else .error 91:=by
 obtain⟨h1,h2,h3⟩:=decN_facts n
 match hl:decN n,h3 with
 | c::t,_ =>
  rw [hl]at h1 h2
  rw [tok_digit (h2 c (List.mem_cons_self ..))]
  have hx:(c::t).takeWhile hexa=c::t:=tw_self _ _ fun x hx=>(digit_no (h2 x hx)).2.2.2
  have ha:(c::t).all digit=true:=List.all_eq_true.2 h2
  unfold numT
  rw [hx]
  simp only [List.drop_length,List.take_nil,ha,h1]
  simp [dots]
theorem num_hex(n:Nat)(hn:n<4294967296)(a:Bool):tokF (hexed n a++[72])=.ok (3,[],Sp.sgn n,(hexed n a).length+1):=by
 obtain⟨h1,h2,c,t,h3,h4⟩:=hexed_facts n a
 have hx:(hexed n a++[72]).takeWhile hexa=hexed n a:=tw_of hexa h2 fun x u e=>by simp at e;rw [← e.1];decide
 have ht:tokF (hexed n a++[72])=numT (hexed n a++[72]):=by rw [h3,List.cons_append];exact tok_digit h4
 rw [ht]
 unfold numT
 rw [hx]
 simp only [List.drop_left,h1]
 simp [hn]
theorem num_char(n:Nat)(a:Bool):tokF (hexed n a++[88])=if n<256 then .ok (4,[],(n:Int),(hexed n a).length+1)else .error 91:=by
 obtain⟨h1,h2,c,t,h3,h4⟩:=hexed_facts n a
 have hx:(hexed n a++[88]).takeWhile hexa=hexed n a:=tw_of hexa h2 fun x u e=>by simp at e;rw [← e.1];decide
 have ht:tokF (hexed n a++[88])=numT (hexed n a++[88]):=by rw [h3,List.cons_append];exact tok_digit h4
 rw [ht]
 unfold numT
 rw [hx]
 simp only [List.drop_left,h1]
 simp
end Tk
namespace Tk
theorem whole_self{w:List UInt8}{kd n:Int}(hw:w ≠ [])(h:tokF w=.ok (kd,w,n,w.length)):Good kd w n∧(kd=1∨kd=2∨kd=6):=by
 match w,hw with
 | c::t,_ =>
  unfold tokF at h
  simp only at h
  split at h
  ·rename_i hc
   obtain⟨h1,h2,h3,h4⟩:=word_kind h
   have hall:(c::t).all inside=true:=by rw [h2];exact List.all_eq_true.2 (tw_all _ _)
   rcases h4 with⟨rfl,h4⟩|⟨rfl,h4,h5⟩
   ·exact⟨.inr (.inl ⟨rfl,h1,h4⟩),by simp⟩
   ·exact⟨.inl ⟨rfl,h1,by simp only [word,hall,hc,decide_eq_true h5];rfl,h4⟩,by simp⟩
  ·split at h
   ·have:=(num_kind h).2
    cases this
   ·split at h
    ·have:=text_kind h
     have hl:=this.2.2.2.1
     omega
    ·obtain⟨h1,h2,h3⟩:=sign_kind h
     subst h1
     exact⟨.inr (.inr (.inr (.inr (.inr ⟨rfl,h2,h3⟩)))),by simp⟩
theorem word_whole{w:List UInt8}(h:w.all inside=true)(hc:∃ c t,w=c::t∧letter c=true):tokF w=if w∈keys then .ok (2,w,0,w.length)else if 24<w.length then .error 2 else .ok (1,w,0,w.length):=by
 obtain⟨c,t,rfl,hl⟩:=hc
 rw [tok_word hl]
 unfold wordT
 rw [tw_self inside (c::t) (List.all_eq_true.1 h)]
theorem sign_whole{w:List UInt8}(h:sign w):w ≠ []∧w.length≤66∧opens w=false∧tokF w=.ok (6,w,0,w.length):=by
 rcases h with h|⟨c,rfl,h⟩
 ·simp only [signs2,List.mem_cons,List.not_mem_nil,or_false]at h
  rcases h with rfl|rfl|rfl|rfl <;> exact⟨by decide,by decide,by decide +kernel,by rfl⟩
 ·simp only [signs1,List.mem_cons,List.not_mem_nil,or_false]at h
  rcases h with rfl|rfl|rfl|rfl|rfl|rfl|rfl|rfl|rfl|rfl|rfl|rfl|rfl|rfl|rfl|rfl|rfl|rfl|rfl|rfl|rfl|rfl <;> exact⟨by decide,by decide,by decide +kernel,by rfl⟩
theorem text_whole(w:List UInt8)(h:∀ c∈w,plain c=true):tokF (34::(w++[34]))=if 64<w.length then .error 2 else .ok (5,w,0,w.length+2):=by
 have hx:(w++[34]).takeWhile plain=w:=tw_of plain h fun x u e=>by simp at e;rw [← e.1];decide
 unfold tokF
 simp only
 rw [if_neg (by decide),if_neg (by decide),if_pos trivial]
 unfold textT
 rw [hx]
 simp
end Tk
namespace Tk
theorem decN_len(n k:Nat)(h:n<10 ^ (k+1)):(decN n).length≤k+1:=by
 induction k generalizing n with
 | zero =>
  rw [decN,dif_pos (by simpa using h)]
  simp
 | succ k ih =>
  rw [decN]
  split
  ·simp
  ·have:=ih (n / 10) (by rw [Nat.div_lt_iff_lt_mul (by omega)];rw [Nat.pow_succ]at h;omega)
   simp;omega
theorem hexN_len(n k:Nat)(h:n<16 ^ (k+1)):(hexN n).length≤k+1:=by
 induction k generalizing n with
 | zero =>
  rw [hexN,dif_pos (by simpa using h)]
  simp
 | succ k ih =>
  rw [hexN]
  split
  ·simp
  ·have:=ih (n / 16) (by rw [Nat.div_lt_iff_lt_mul (by omega)];rw [Nat.pow_succ]at h;omega)
   simp;omega
theorem hexed_len(n:Nat)(a:Bool)(h:n<4294967296):(hexed n a).length≤9:=by
 have:=hexN_len n 7 (by simpa using h)
 unfold hexed
 match hl:hexN n with
 | []=>simp
 | c::t =>
  rw [hl]at this
  simp only
  split <;> simp at this ⊢ <;> omega
theorem sgn_self{n:Int}(h0 : -2147483648≤n)(h1:n<2147483648):Sp.sgn (n % 4294967296)=n:=Sp.sgn_word n ((Sp.fit_iff n).2 ⟨h0,h1⟩)
theorem spell_1{kd:Int}{w:List UInt8}{n:Int}(h:kd=1∨kd=2∨kd=6):spell kd w n=w:=by
 unfold spell
 rcases h with rfl|rfl|rfl <;> simp
theorem good_spelt{kd:Int}{w:List UInt8}{n:Int}(h:Good kd w n):Spelt (spell kd w n) kd w n:=by
 rcases h with⟨rfl,rfl,h1,h2⟩|⟨rfl,rfl,h1⟩|⟨rfl,rfl,h1,h2⟩|⟨rfl,rfl,h1,h2⟩|⟨rfl,rfl,h1,h2⟩|⟨rfl,rfl,h1⟩
 ·rw [spell_1 (by simp)]
  simp only [word,Bool.and_eq_true,decide_eq_true_eq]at h1
  obtain⟨⟨g1,g2⟩,g3⟩:=h1
  match w,g3 with
  | c::t,g3 =>
   refine⟨by simp,by omega,opens_letter t (.inl g3),?_⟩
   rw [word_whole g2 ⟨c,t,rfl,g3⟩,if_neg h2,if_neg (by omega)]
 ·rw [spell_1 (by simp)]
  obtain⟨g2,⟨c,t,rfl,g3⟩,g1⟩:=keys_word w h1
  refine⟨by simp,by omega,opens_letter t (.inl g3),?_⟩
  rw [word_whole g2 ⟨c,t,rfl,g3⟩,if_pos h1]
 ·unfold spell
  rw [if_pos rfl]
  by_cases hn:n<0
  ·rw [if_pos hn]
   obtain⟨e1,e2,c,t,e3,e4⟩:=hexed_facts (n % 4294967296).toNat true
   have hl:=hexed_len (n % 4294967296).toNat true (by omega)
   have ht:=num_hex (n % 4294967296).toNat (by omega) true
   rw [show((n % 4294967296).toNat:Int)=n % 4294967296 from by omega,sgn_self h1 h2]at ht
   refine⟨by simp,by simp;omega,?_,?_⟩
   ·rw [e3,List.cons_append];exact opens_letter _ (.inr (.inl e4))
   ·rw [ht];simp
  ·rw [if_neg hn]
   obtain⟨e1,e2,e3⟩:=decN_facts n.toNat
   have hl:=decN_len n.toNat 9 (by have:(10:Nat) ^ (9+1)=10000000000:=(by decide);omega)
   have ht:=num_dec n.toNat
   rw [if_pos (by omega),show(n.toNat:Int)=n from by omega]at ht
   match hd:decN n.toNat,e3 with
   | c::t,_ =>
    rw [hd]at e2 hl ht
    exact⟨by simp,by omega,opens_letter t (.inr (.inl (e2 c (List.mem_cons_self ..)))),ht⟩
 ·unfold spell
  rw [if_neg (by decide),if_pos rfl]
  obtain⟨e1,e2,c,t,e3,e4⟩:=hexed_facts (n % 4294967296).toNat false
  have hl:=hexed_len (n % 4294967296).toNat false (by omega)
  have ht:=num_char (n % 4294967296).toNat false
  rw [if_pos (by omega),show((n % 4294967296).toNat:Int)=n from by omega]at ht
  refine⟨by simp,by simp;omega,?_,?_⟩
  ·rw [e3,List.cons_append];exact opens_letter _ (.inr (.inl e4))
  ·rw [ht];simp
 ·unfold spell
  rw [if_neg (by decide),if_neg (by decide),if_pos rfl]
  refine⟨by simp,by simp;omega,opens_letter _ (.inr (.inr rfl)),?_⟩
  rw [text_whole w h2,if_neg (by omega)]
  simp
 ·rw [spell_1 (by simp)]
  exact sign_whole h1
theorem spelt_good{kd:Int}{w:List UInt8}{n:Int}(h:Spelt (spell kd w n) kd w n):Good kd w n:=by
 obtain⟨h1,h2,h3,h4⟩:=h
 by_cases k3:kd=3
 ·subst k3
  unfold spell at h4
  rw [if_pos rfl]at h4
  split at h4
  ·rename_i hn
   rw [num_hex (n % 4294967296).toNat (by omega) true]at h4
   simp at h4
   have hb:=Sp.sgn_bd (n % 4294967296) (by omega) (by omega)
   rw [show max (n % 4294967296) 0=n % 4294967296 from by omega]at h4
   exact .inr (.inr (.inl ⟨rfl,h4.1,by omega,by omega⟩))
  ·rename_i hn
   rw [num_dec]at h4
   split at h4
   ·simp at h4
    exact .inr (.inr (.inl ⟨rfl,h4.1,by omega,by omega⟩))
   ·cases h4
 by_cases k4:kd=4
 ·subst k4
  unfold spell at h4
  rw [if_neg (by decide),if_pos rfl,num_char]at h4
  split at h4
  ·simp at h4
   exact .inr (.inr (.inr (.inl ⟨rfl,h4.1,by omega,by omega⟩)))
  ·cases h4
 by_cases k5:kd=5
 ·subst k5
  unfold spell at h4
  rw [if_neg (by decide),if_neg (by decide),if_pos rfl]at h4
  unfold tokF at h4
  simp only at h4
  rw [if_neg (by decide),if_neg (by decide),if_pos trivial]at h4
  obtain⟨-,e2,e3,e4,e5⟩:=text_kind h4
  refine .inr (.inr (.inr (.inr (.inl ⟨rfl,e2,e5,?_⟩))))
  rw [e3]
  exact tw_all _ _
 have hs:spell kd w n=w:=by unfold spell;rw [if_neg k3,if_neg k4,if_neg k5]
 rw [hs]at h1 h4
 exact(whole_self h1 h4).1
theorem spelt_iff(kd:Int)(w:List UInt8)(n:Int):Spelt (spell kd w n) kd w n ↔ Good kd w n:=⟨spelt_good,good_spelt⟩
end Tk
open Go.RowKit
namespace Tk
def lx(n:Nat):UInt8:=if n<10 then UInt8.ofNat (48+n)else UInt8.ofNat (87+n)
def lexN16(n:Nat):List UInt8:=if h:n<16 then [lx n]else lexN16 (n / 16)++[lx (n % 16)]
termination_by n
decreasing_by omega
theorem lexN16_small{n:Nat}(h:n<16):lexN16 n=[lx n]:=by rw [lexN16,dif_pos h]
theorem lexN16_big{n:Nat}(h:¬ n<16):lexN16 n=lexN16 (n / 16)++[lx (n % 16)]:=by rw [lexN16,dif_neg h]
abbrev digs36:ByteArray:=⟨#[48,49,50,51,52,53,54,55,56,57,97,98,99,100,101,102,103,104,105,106,107,108,109,110,111,112,113,114,115,116,117,118,119,120,121,122]⟩
theorem digs_at(d:Nat)(h:d<16)(h2:d<digs36.size):digs36[d]'h2=lx d:=by
 have:d=0∨d=1∨d=2∨d=3∨d=4∨d=5∨d=6∨d=7∨d=8∨d=9∨d=10∨d=11∨d=12∨d=13∨d=14∨d=15:=by omega
 rcases this with rfl|rfl|rfl|rfl|rfl|rfl|rfl|rfl|rfl|rfl|rfl|rfl|rfl|rfl|rfl|rfl <;> rfl
def byteCells(l:List UInt8):List Value:=l.map fun c=>Value.int .u8 (c.toNat:Int)
theorem set_drop{A:Array Value}{i:Nat}{l:List Value}(hi:i<A.size)(h:A.toList.drop (i+1)=l)(v:Value):(A.setIfInBounds i v).toList.drop i=v::l∧(A.setIfInBounds i v).size=A.size:=by
 refine⟨?_,by simp⟩
 rw [Array.toList_setIfInBounds,List.drop_eq_getElem_cons (by simpa using hi)]
 congr 1
 ·simp
 ·rw [List.drop_set];simp [h]
theorem and15(u:Nat)(hu:u<18446744073709551616):bits .and .u64 (u:Int) 15=((u % 16:Nat):Int):=by
 have:=u64_and_nat u 15 hu (by decide)
 rw [show u &&& 15=u % 16 from Nat.and_two_pow_sub_one_eq_mod u 4]at this
 simpa using this
theorem lx_lt(n:Nat)(h:n<16):(lx n).toNat<128:=by
 have:n=0∨n=1∨n=2∨n=3∨n=4∨n=5∨n=6∨n=7∨n=8∨n=9∨n=10∨n=11∨n=12∨n=13∨n=14∨n=15:=by omega
 rcases this with rfl|rfl|rfl|rfl|rfl|rfl|rfl|rfl|rfl|rfl|rfl|rfl|rfl|rfl|rfl|rfl <;> decide
theorem lexN16_lt(n:Nat):∀ c∈lexN16 n,c.toNat<128:=by
 induction n using Nat.strongRecOn with
 | _ n ih =>
  by_cases h:n<16
  ·rw [lexN16_small h];intro c hc;simp at hc;subst hc;exact lx_lt n h
  ·rw [lexN16_big h]
   intro c hc
   rcases List.mem_append.1 hc with hc|hc
   ·exact ih (n / 16) (by omega) c hc
   ·simp at hc;subst hc;exact lx_lt _ (by omega)
end Tk
namespace Tk
theorem upper_lx(n:Nat)(h:n<16):Lib.upperB (lx n)=hx n:=by
 have:n=0∨n=1∨n=2∨n=3∨n=4∨n=5∨n=6∨n=7∨n=8∨n=9∨n=10∨n=11∨n=12∨n=13∨n=14∨n=15:=by omega
 rcases this with rfl|rfl|rfl|rfl|rfl|rfl|rfl|rfl|rfl|rfl|rfl|rfl|rfl|rfl|rfl|rfl <;> decide
theorem upper_hex(n:Nat):Lib.toUpperA (lexN16 n)=hexN n:=by
 induction n using Nat.strongRecOn with
 | _ n ih =>
  by_cases h:n<16
  ·rw [lexN16_small h,hexN,dif_pos h]
   simp [Lib.toUpperA,upper_lx n h]
  ·rw [lexN16_big h,hexN,dif_neg h]
   have:=ih (n / 16) (by omega)
   unfold Lib.toUpperA at this ⊢
   rw [List.map_append,this]
   simp [upper_lx _ (Nat.mod_lt n (by decide:0<16))]
theorem dec_eq(n:Nat):Lib.decDigits n=decN n:=by
 induction n using Nat.strongRecOn with
 | _ n ih =>
  rw [Lib.decDigits,decN]
  by_cases h:n<10
  ·rw [dif_pos h,dif_pos h]
  ·rw [dif_neg h,dif_neg h,ih (n / 10) (by omega)]
end Tk
end Go.Proofs.YtlhmkfcbldghfaaGreatDoor
