/- A text with blanks and a comment ahead of each token has the same tokens but for places. No program in sight. Tokens that were written one by one,with blanks between them,are read -/
import Derived.Test.YthkegfdijohpaaaGreatDoorTkA
import Derived.Laws.BytesArg
import Derived.Laws.BitsAllLaws
import Derived.Lib.Case
import Derived.Lib.ItoaNum
namespace Go.Proofs.YthkegfdijohpaaaGreatDoor
set_option linter.all false
namespace Tk
theorem cmt_take(l:List UInt8)(d:Int)(n:Nat)(h:cmt l d=some n):cmt (l.take n) d=some n:=by
 induction l,d using cmt.induct generalizing n with
 | case1=>simp [cmt]at h
 | case2=>simp [cmt]at h
 | case3 d a b t hab ih =>
  simp only [cmt,hab,if_true,and_self]at h
  obtain⟨m,hm,rfl⟩:=Option.map_eq_some_iff.1 h
  simp only [List.take_succ_cons,cmt,hab,if_true,and_self,ih m hm]
  rfl
 | case4 a b t hab hab2 =>
  simp only [cmt,if_neg hab,if_pos hab2,if_true]at h
  simp at h
  subst h
  simp only [List.take_succ_cons,cmt,if_neg hab,if_pos hab2,if_true]
 | case5 d a b t hab hab2 hd ih =>
  simp only [cmt,if_neg hab,if_pos hab2,if_neg hd]at h
  obtain⟨m,hm,rfl⟩:=Option.map_eq_some_iff.1 h
  simp only [List.take_succ_cons,cmt,if_neg hab,if_pos hab2,if_neg hd,ih m hm]
  rfl
 | case6 d a b t hab hab2 ih =>
  simp only [cmt,if_neg hab,if_neg hab2]at h
  obtain⟨m,hm,rfl⟩:=Option.map_eq_some_iff.1 h
  have h2:=ih m hm
  have hm2:=cmt_len _ _ _ hm
  obtain⟨j,rfl⟩:∃ j,m=j+1:=⟨m - 1,by omega⟩
  simp only [List.take_succ_cons]at h2
  simp only [List.take_succ_cons,cmt,if_neg hab,if_neg hab2,h2]
  rfl
def spreadF(I:List UInt8)(l:List UInt8):List UInt8:=
 match l with
 | []=>[]
 | c::t =>
  if blank c=true then c::spreadF I t
  else if opens (c::t)=true then
   match hc:cmt (c::t) 0 with
   | none=>[]
   | some n=>(c::t).take n++spreadF I ((c::t).drop n)
  else match ht:tokF (c::t)with
   | .error _=>[]
   | .ok (_,_,_,m)=>I++((c::t).take m++spreadF I ((c::t).drop m))
termination_by l.length
decreasing_by
 ·simp
 ·have:=cmt_len _ _ _ hc;simp at this ⊢;omega
 ·have:=tokF_len ht;simp at this ⊢;omega
theorem spread_blank{I:List UInt8}{c:UInt8}{t:List UInt8}(h:blank c=true):spreadF I (c::t)=c::spreadF I t:=by rw [spreadF,if_pos h]
theorem spread_cmt{I:List UInt8}{c:UInt8}{t:List UInt8}(h:blank c=false)(ho:opens (c::t)=true){n:Nat}(hc:cmt (c::t) 0=some n):spreadF I (c::t)=(c::t).take n++spreadF I ((c::t).drop n):=by
 rw [spreadF,if_neg (by simp [h]),if_pos ho]
 split
 ·rename_i h2;rw [hc]at h2;cases h2
 ·rename_i m h2;rw [hc]at h2;simp at h2;rw [h2]
theorem spread_tok{I:List UInt8}{c:UInt8}{t:List UInt8}(h:blank c=false)(ho:opens (c::t)=false){kd n:Int}{w:List UInt8}{m:Nat}(ht:tokF (c::t)=.ok (kd,w,n,m)) :
  spreadF I (c::t)=I++((c::t).take m++spreadF I ((c::t).drop m)):=by
 rw [spreadF,if_neg (by simp [h]),if_neg (by simp [ho])]
 split
 ·rename_i e' h2;rw [ht]at h2;cases h2
 ·rename_i h2;rw [ht]at h2;simp at h2;obtain⟨rfl,rfl,rfl,rfl⟩:=h2;rfl
def strip(t:Tok):Int × List UInt8 × Int:=(t.1,t.2.1,t.2.2.1)
theorem blank_brk{c:UInt8}(t:List UInt8)(h:blank c=true):brk (c::t):=by
 refine .inr ⟨c,t,rfl,?_⟩
 simp only [blank,Bool.or_eq_true,beq_iff_eq]at h
 rcases h with((h|h)|h)|h <;> simp [h]
theorem opens_brk{c:UInt8}(t u:List UInt8)(h:opens (c::t)=true):brk (c::u):=by
 refine .inr ⟨c,u,rfl,?_⟩
 simp only [opens,beq_iff_eq]at h
 match t with
 | []=>simp at h
 | a::v=>simp at h;simp [h]
theorem spread_brk(I tail:List UInt8)(hI:brk I)(hne:I ≠ [])(ht:brk tail)(l:List UInt8)(p k:Nat)(r:List Tok)(h:lexF l p k=.ok r):brk (spreadF I l++tail):=by
 have hI2:∀ z,brk (I++z):=by
  intro z
  rcases hI with h|⟨c,t,rfl,hc⟩
  ·exact absurd h hne
  ·exact .inr ⟨c,t++z,rfl,hc⟩
 match l with
 | []=>rw [spreadF];exact ht
 | c::t =>
  cases hb:blank c
  ·cases ho:opens (c::t)
   ·cases htk:tokF (c::t)with
    | error e=>rw [lexF_err p k hb ho htk]at h;cases h
    | ok v =>
     obtain⟨kd,w,n,m⟩:=v
     rw [spread_tok hb ho htk,List.append_assoc]
     exact hI2 _
   ·cases hc:cmt (c::t) 0 with
    | none=>rw [lexF_cmt_none p k hb ho hc]at h;cases h
    | some n =>
     have:=cmt_len _ _ _ hc
     rw [spread_cmt hb ho hc]
     obtain⟨j,rfl⟩:∃ j,n=j+1:=⟨n - 1,by omega⟩
     rw [List.take_succ_cons,List.cons_append,List.cons_append]
     exact opens_brk t _ ho
  ·rw [spread_blank hb]
   exact blank_brk _ hb
theorem lex_pass(B C:List UInt8)(hB:∀ c∈B,blank c=true)(hC:cmt C 0=some C.length)(hC2:∃ t,C=40::42::t)(Z:List UInt8)(p k:Nat):lexF (B++C++Z) p k=lexF Z (p+(B++C).length) k:=by
 induction B generalizing p with
 | nil =>
  obtain⟨t,rfl⟩:=hC2
  have h1:=cmt_more _ _ _ Z hC
  rw [List.nil_append]
  rw [List.cons_append,List.cons_append]at h1 ⊢
  rw [lexF_cmt p k (by decide) (by simp [opens]) h1]
  congr 1
  have:(40::42::(t++Z))=(40::42::t)++Z:=rfl
  rw [this,List.drop_left]
 | cons b B ih =>
  rw [List.cons_append,List.cons_append,lexF_blank p k (hB b (List.mem_cons_self ..)),ih (fun c hc=>hB c (List.mem_cons_of_mem _ hc))]
  congr 1
  simp
  omega
theorem spread_lex(B C tail:List UInt8)(hB:∀ c∈B,blank c=true)(hC:cmt C 0=some C.length)(hC2:∃ t,C=40::42::t)(ht:brk tail)(htl:∀ p k,lexF tail p k=.ok [])
  (l:List UInt8) (p k p':Nat) (r:List Tok) (h:lexF l p k=.ok r):∃ r',lexF (spreadF (B++C) l++tail) p' k=.ok r'∧r'.map strip=r.map strip:=by
 have hI:brk (B++C):=by
  match B,hB with
  | [],_=>obtain⟨t,rfl⟩:=hC2;exact .inr ⟨40,_,rfl,by simp⟩
  | b::B,hB=>exact blank_brk _ (hB b (List.mem_cons_self ..))
 have hne:B++C ≠ []:=by obtain⟨t,rfl⟩:=hC2;simp
 induction hn:l.length using Nat.strongRecOn generalizing l p k p' r with
 | _ N ih =>
  match l,hn with
  | [],hn =>
   rw [lexF_nil]at h
   simp at h
   subst h
   rw [spreadF]
   exact⟨[],htl _ _,rfl⟩
  | c::u,hn =>
   cases hb:blank c
   ·cases ho:opens (c::u)
    ·cases htk:tokF (c::u)with
     | error e=>rw [lexF_err p k hb ho htk]at h;cases h
     | ok v =>
      obtain⟨kd,w,n,m⟩:=v
      have hm:=tokF_len htk
      rw [lexF_tok p k hb ho htk]at h
      split at h
      ·cases h
      ·rename_i hk
       split at h
       ·cases h
       ·rename_i r1 hr1
        simp at h
        subst h
        have hbr:=spread_brk (B++C) tail hI hne ht _ _ _ _ hr1
        obtain⟨r2,h2,h3⟩:=ih ((c::u).drop m).length (by rw [List.length_drop];omega) _ _ _ (p'+(B++C).length+m) _ hr1 rfl
        rw [spread_tok hb ho htk,List.append_assoc (B++C) _ tail,lex_pass B C hB hC hC2,List.append_assoc]
        have htk2:=tok_more htk (z:=spreadF (B++C) ((c::u).drop m)++tail) (.inr hbr)
        generalize spreadF (B++C) ((c::u).drop m)++tail=Z at *
        obtain⟨j,rfl⟩:∃ j,m=j+1:=⟨m - 1,by omega⟩
        have hlen:((c::u).take (j+1)).length=j+1:=by rw [List.length_take];omega
        have ho2:opens ((c::u).take (j+1)++Z)=false:=by
         match j,u,ho with
         | 0,u,ho =>
          simp only [List.take_succ_cons,List.take_zero,List.cons_append,List.nil_append]
          rcases hbr with rfl|⟨b,v,rfl,hb2⟩
          ·have:([c] == ([40,42]:List UInt8))=false:=by simp
           simp [opens,this]
          ·have:b ≠ 42:=by rcases hb2 with rfl|rfl|rfl|rfl|rfl <;> decide
           simp [opens,this]
         | j+1,[],ho=>simp at hlen
         | j+1,a::u,ho=>simpa [opens]using ho
        have hd:((c::u).take (j+1)++Z).drop (j+1)=Z:=by
         have h5:((c::u).take (j+1)++Z).drop ((c::u).take (j+1)).length=Z:=List.drop_left
         rw [hlen]at h5;exact h5
        rw [List.take_succ_cons,List.cons_append]at htk2 ho2 hd ⊢
        rw [lexF_tok _ k hb ho2 htk2,if_neg hk,hd,h2]
        exact⟨_,rfl,by simp [strip]at h3 ⊢;exact h3⟩
    ·cases hc:cmt (c::u) 0 with
     | none=>rw [lexF_cmt_none p k hb ho hc]at h;cases h
     | some n =>
      have hm:=cmt_len _ _ _ hc
      rw [lexF_cmt p k hb ho hc]at h
      obtain⟨r2,h2,h3⟩:=ih ((c::u).drop n).length (by rw [List.length_drop];omega) _ _ _ (p'+n) _ h rfl
      rw [spread_cmt hb ho hc,List.append_assoc]
      generalize spreadF (B++C) ((c::u).drop n)++tail=Z at *
      have hc2:=cmt_more _ _ _ Z (cmt_take _ _ _ hc)
      obtain⟨j,rfl⟩:∃ j,n=j+2:=⟨n - 2,by omega⟩
      have hlen:((c::u).take (j+2)).length=j+2:=by rw [List.length_take];omega
      have hd:((c::u).take (j+2)++Z).drop (j+2)=Z:=by
       have h5:((c::u).take (j+2)++Z).drop ((c::u).take (j+2)).length=Z:=List.drop_left
       rw [hlen]at h5;exact h5
      have ho2:opens ((c::u).take (j+2)++Z)=true:=by
       match u,ho with
       | [],ho=>simp [opens]at ho
       | a::u,ho=>simpa [opens]using ho
      rw [List.take_succ_cons,List.cons_append]at hc2 ho2 hd ⊢
      rw [lexF_cmt p' k hb ho2 hc2,hd]
      exact⟨r2,h2,h3⟩
   ·rw [lexF_blank p k hb]at h
    obtain⟨r2,h2,h3⟩:=ih u.length (by simp at hn;omega) _ _ _ (p'+1) _ h rfl
    rw [spread_blank hb,List.cons_append,lexF_blank p' k hb]
    exact⟨r2,h2,h3⟩
def build(I s:List UInt8):Nat→List Nat→List UInt8
 | last,[]=>s.drop last
 | last,a::as=>(s.drop last).take (a - last)++(I++build I s a as)
theorem build_spread(I s:List UInt8)(l:List UInt8)(p k last:Nat)(r:List Tok)(hl:s.drop p=l)(hle:last≤p)(h:lexF l p k=.ok r) :
  build I s last (r.map fun t=>t.2.2.2.toNat)=(s.drop last).take (p - last)++spreadF I l:=by
 have step:∀ n,n≤l.length→(s.drop last).take (p+n - last)=(s.drop last).take (p - last)++l.take n:=by
  intro n _
  rw [show p+n - last=(p - last)+n from by omega,List.take_add,List.drop_drop,show last+(p - last)=p from by omega,hl]
 induction hn:l.length using Nat.strongRecOn generalizing l p k last r with
 | _ N ih =>
  match l,hn with
  | [],hn =>
   rw [lexF_nil]at h
   simp at h
   subst h
   rw [spreadF]
   simp only [List.map_nil,build,List.append_nil]
   have:(s.drop last).length≤p - last:=by
    have:=congrArg List.length hl
    simp at this ⊢
    omega
   rw [List.take_of_length_le this]
  | c::u,hn =>
   have hdr:∀ n,s.drop (p+n)=(c::u).drop n:=fun n=>by rw [← hl,List.drop_drop]
   have step':∀(l':List UInt8) (n last:Nat),last≤p+n→s.drop (p+n)=l'→∀ i,i≤l'.length→(s.drop last).take (p+n+i - last)=(s.drop last).take (p+n - last)++l'.take i:=by
    intro l' n last h1 h2 i _
    rw [show p+n+i - last=(p+n - last)+i from by omega,List.take_add,List.drop_drop,show last+(p+n - last)=p+n from by omega,h2]
   cases hb:blank c
   ·cases ho:opens (c::u)
    ·cases htk:tokF (c::u)with
     | error e=>rw [lexF_err p k hb ho htk]at h;cases h
     | ok v =>
      obtain⟨kd,w,n,m⟩:=v
      have hm:=tokF_len htk
      rw [lexF_tok p k hb ho htk]at h
      split at h
      ·cases h
      ·split at h
       ·cases h
       ·rename_i r1 hr1
        simp at h
        subst h
        have:=ih ((c::u).drop m).length (by rw [List.length_drop];omega) _ (p+m) (k+1) p r1 (hdr m) (by omega) hr1 (step' _ m p (by omega) (hdr m)) rfl
        rw [spread_tok hb ho htk]
        simp only [List.map_cons,build,Int.toNat_natCast]
        rw [this,hl,show p+m - p=m from by omega]
    ·cases hc:cmt (c::u) 0 with
     | none=>rw [lexF_cmt_none p k hb ho hc]at h;cases h
     | some n =>
      have hm:=cmt_len _ _ _ hc
      rw [lexF_cmt p k hb ho hc]at h
      have:=ih ((c::u).drop n).length (by rw [List.length_drop];omega) _ (p+n) k last r (hdr n) (by omega) h (step' _ n last (by omega) (hdr n)) rfl
      rw [this,spread_cmt hb ho hc,step n hm.2,List.append_assoc]
   ·rw [lexF_blank p k hb]at h
    have h1:s.drop (p+1)=u:=by rw [hdr 1];rfl
    have:=ih u.length (by simp at hn;omega) _ (p+1) k last r h1 (by omega) h (step' _ 1 last (by omega) h1) rfl
    rw [this,spread_blank hb,step 1 (by simp)]
    simp
end Tk
namespace Tk
theorem tok_blank{c:UInt8}{t:List UInt8}{v:Int × List UInt8 × Int × Nat}(h:tokF (c::t)=.ok v):blank c=false:=by
 cases hb:blank c
 ·rfl
 ·exfalso
  simp only [blank,Bool.or_eq_true,beq_iff_eq]at hb
  have hc:c=9∨c=10∨c=13∨c=32:=by rcases hb with((h|h)|h)|h <;> simp [h]
  unfold tokF at h
  simp only at h
  have h1:letter c=false:=by rcases hc with rfl|rfl|rfl|rfl <;> decide
  have h2:digit c=false:=by rcases hc with rfl|rfl|rfl|rfl <;> decide
  have h3:c ≠ 34:=by rcases hc with rfl|rfl|rfl|rfl <;> decide
  have h4:c ∉ signs1:=by rcases hc with rfl|rfl|rfl|rfl <;> decide
  have h5:(c::t).take 2 ∉ signs2:=by
   intro hm
   simp only [signs2,List.mem_cons,List.not_mem_nil,or_false,List.take_succ_cons,List.cons.injEq]at hm
   rcases hc with rfl|rfl|rfl|rfl <;> simp at hm
  rw [if_neg (by simp [h1]),if_neg (by simp [h2]),if_neg h3]at h
  unfold signT at h
  rw [if_neg h5]at h
  simp only [if_neg h4]at h
  cases h
theorem opens_more{x z:List UInt8}(hx:x ≠ [])(ho:opens x=false)(hz:brk z):opens (x++z)=false:=by
 match x,hx with
 | [c],_ =>
  rcases hz with rfl|⟨b,v,rfl,hb2⟩
  ·simpa using ho
  ·have:b ≠ 42:=by rcases hb2 with rfl|rfl|rfl|rfl|rfl <;> decide
   simp [opens,this]
 | c::a::u,_=>simpa [opens]using ho
def joinS:List (List UInt8)→List UInt8
 | []=>[]
 | [s]=>s
 | s::t::u=>s++32::joinS (t::u)
def Whole(s:List UInt8)(v:Int × List UInt8 × Int):Prop:=s ≠ []∧opens s=false∧tokF s=.ok (v.1,v.2.1,v.2.2,s.length)
theorem lex_whole{s z:List UInt8}{v:Int × List UInt8 × Int}(h:Whole s v)(hz:brk z)(p k:Nat)(hk:k ≠ 6000) :
  lexF (s++z) p k=match lexF z (p+s.length) (k+1)with | .error e => .error e | .ok r => .ok ((v.1,v.2.1,v.2.2,(p:Int))::r):=by
 obtain⟨h1,h2,h3⟩:=h
 have h4:tokF (s++z)=.ok (v.1,v.2.1,v.2.2,s.length):=tok_cut (y:=[]) (by simpa using h3) (.inr hz)
 have h5:=opens_more h1 h2 hz
 match s,h1 with
 | c::t,_ =>
  have hb:=tok_blank h3
  rw [List.cons_append]at h4 h5 ⊢
  rw [lexF_tok p k hb h5 h4,if_neg hk]
  have:(c::(t++z)).drop (c::t).length=z:=by
   have:c::(t++z)=(c::t)++z:=rfl
   rw [this,List.drop_left]
  rw [this]
  cases lexF z (p+(c::t).length) (k+1) <;> rfl
theorem lex_join(l:List (List UInt8 × (Int × List UInt8 × Int)))(hl:∀ x∈l,Whole x.1 x.2)(p k:Nat)(hk:k+l.length≤6000) :
  ∃ r,lexF (joinS (l.map (·.1))) p k=.ok r∧r.map strip=l.map (·.2):=by
 induction l generalizing p k with
 | nil=>exact⟨[],lexF_nil _ _,rfl⟩
 | cons x u ih =>
  have hx:=hl x (List.mem_cons_self ..)
  have hk':k ≠ 6000:=by simp at hk;omega
  match u,ih with
  | [],_ =>
   have:=lex_whole hx (z:=[]) (.inl rfl) p k hk'
   rw [List.append_nil,lexF_nil]at this
   exact⟨_,this,rfl⟩
  | y::u,ih =>
   obtain⟨r,h1,h2⟩:=ih (fun z hz=>hl z (List.mem_cons_of_mem _ hz)) (p+x.1.length+1) (k+1) (by simp at hk ⊢;omega)
   have:=lex_whole hx (z:=32::joinS (y.1::u.map (·.1))) (.inr ⟨32,_,rfl,by simp⟩) p k hk'
   rw [lexF_blank _ _ (by decide)]at this
   simp only [List.map_cons]at h1
   rw [h1]at this
   exact⟨_,this,by simp only [List.map_cons,strip]at h2 ⊢;rw [h2]⟩
end Tk
namespace Tk
def decN(n:Nat):List UInt8:=if h:n<10 then [UInt8.ofNat (48+n)]else decN (n / 10)++[UInt8.ofNat (48+n % 10)]
termination_by n
decreasing_by omega
def hx(n:Nat):UInt8:=if n<10 then UInt8.ofNat (48+n)else UInt8.ofNat (55+n)
def hexN(n:Nat):List UInt8:=if h:n<16 then [hx n]else hexN (n / 16)++[hx (n % 16)]
termination_by n
decreasing_by omega
theorem val_snoc(b:Nat)(l:List UInt8)(c:UInt8):val b (l++[c])=val b l * b+dig c:=by simp [val]
theorem dig_dec(n:Nat)(h:n<10):dig (UInt8.ofNat (48+n))=n∧digit (UInt8.ofNat (48+n))=true:=by
 have:n=0∨n=1∨n=2∨n=3∨n=4∨n=5∨n=6∨n=7∨n=8∨n=9:=by omega
 rcases this with rfl|rfl|rfl|rfl|rfl|rfl|rfl|rfl|rfl|rfl <;> decide
theorem dig_hex(n:Nat)(h:n<16):dig (hx n)=n∧hexa (hx n)=true∧(digit (hx n)=decide (n<10))∧((57<(hx n).toNat)=(10≤n)):=by
 have:n=0∨n=1∨n=2∨n=3∨n=4∨n=5∨n=6∨n=7∨n=8∨n=9∨n=10∨n=11∨n=12∨n=13∨n=14∨n=15:=by omega
 rcases this with rfl|rfl|rfl|rfl|rfl|rfl|rfl|rfl|rfl|rfl|rfl|rfl|rfl|rfl|rfl|rfl <;> decide
theorem decN_facts(n:Nat):val 10 (decN n)=n∧(∀ c∈decN n,digit c=true)∧decN n ≠ []:=by
 induction n using Nat.strongRecOn with
 | _ n ih =>
  rw [decN]
  split
  ·rename_i h
   have:=dig_dec n h
   refine⟨by(show 0 * 10+dig _=n);rw [this.1];omega,?_,by simp⟩
   intro c hc
   rw [List.mem_singleton.1 hc];exact this.2
  ·rename_i h
   obtain⟨h1,h2,h3⟩:=ih (n / 10) (by omega)
   have:=dig_dec (n % 10) (by omega)
   refine⟨?_,?_,by simp⟩
   ·rw [val_snoc,h1,this.1];omega
   ·intro c hc
    rcases List.mem_append.1 hc with hc|hc
    ·exact h2 c hc
    ·rw [List.mem_singleton.1 hc];exact this.2
theorem hexN_facts(n:Nat):val 16 (hexN n)=n∧(∀ c∈hexN n,hexa c=true)∧hexN n ≠ []:=by
 induction n using Nat.strongRecOn with
 | _ n ih =>
  rw [hexN]
  split
  ·rename_i h
   have:=dig_hex n h
   refine⟨by(show 0 * 16+dig _=n);rw [this.1];omega,?_,by simp⟩
   intro c hc
   rw [List.mem_singleton.1 hc];exact this.2.1
  ·rename_i h
   obtain⟨h1,h2,h3⟩:=ih (n / 16) (by omega)
   have:=dig_hex (n % 16) (by omega)
   refine⟨?_,?_,by simp⟩
   ·rw [val_snoc,h1,this.1];omega
   ·intro c hc
    rcases List.mem_append.1 hc with hc|hc
    ·exact h2 c hc
    ·rw [List.mem_singleton.1 hc];exact this.2.1
def hexed(n:Nat)(always:Bool):List UInt8:=
 match hexN n with
 | []=>[]
 | c::t=>if (always || decide (57<c.toNat))=true then 48::c::t else c::t
theorem hexed_facts(n:Nat)(a:Bool):val 16 (hexed n a)=n∧(∀ c∈hexed n a,hexa c=true)∧∃ c t,hexed n a=c::t∧digit c=true:=by
 obtain⟨h1,h2,h3⟩:=hexN_facts n
 unfold hexed
 match hl:hexN n,h3 with
 | c::t,_ =>
  rw [hl]at h1 h2
  simp only
  split
  ·refine⟨by simpa [val,dig]using h1,?_,48,c::t,rfl,by decide⟩
   intro x hx
   rcases List.mem_cons.1 hx with rfl|hx
   ·decide
   ·exact h2 x hx
  ·rename_i hn
   refine⟨h1,h2,c,t,rfl,?_⟩
   have hc:=h2 c (List.mem_cons_self ..)
   simp only [Bool.or_eq_true,decide_eq_true_eq,not_or]at hn
   simp only [hexa,digit,Bool.or_eq_true,Bool.and_eq_true,decide_eq_true_eq]at hc ⊢
   omega
def spell(kd:Int)(w:List UInt8)(n:Int):List UInt8:=
 if kd=3 then(if n<0 then hexed (n % 4294967296).toNat true++[72]else decN n.toNat)
 else if kd=4 then hexed (n % 4294967296).toNat false++[88]
 else if kd=5 then 34::(w++[34])
 else w
theorem digit_no{c:UInt8}(h:digit c=true):letter c=false∧c ≠ 34∧c ≠ 40∧hexa c=true:=by
 simp only [digit,Bool.and_eq_true,decide_eq_true_eq]at h
 refine⟨?_,?_,?_,by simp [hexa,digit,h]⟩
 ·simp only [letter,Bool.or_eq_false_iff,Bool.and_eq_false_iff,decide_eq_false_iff_not]
  omega
 ·rintro rfl;revert h;decide
 ·rintro rfl;revert h;decide
theorem tok_digit{c:UInt8}{t:List UInt8}(h:digit c=true):tokF (c::t)=numT (c::t):=by
 have:=digit_no h
 unfold tokF
 simp only
 rw [if_neg (by simp [this.1]),if_pos h]
theorem tw_self(p:UInt8→Bool)(l:List UInt8)(h:∀ c∈l,p c=true):l.takeWhile p=l:=by
 have:=tw_of p (x:=l) (z:=[]) h (fun c t e=>by cases e)
 simpa using this
theorem num_dec(n:Nat):tokF (decN n)=if n<2147483648 then .ok (3,[],(n:Int),(decN n).length)else .error 91:=by
 obtain⟨h1,h2,h3⟩:=decN_facts n
 match hl:decN n,h3 with
 | c::t,_ =>
  rw [hl]at h1 h2
  rw [tok_digit (h2 c (List.mem_cons_self ..))]
  have hx:(c::t).takeWhile hexa=c::t:=tw_self _ _ fun x hx=>(digit_no (h2 x hx)).2.2.2
  have ha:(c::t).all digit=true:=List.all_eq_true.2 h2
  unfold numT
  rw [hx]
  simp only [List.drop_length,List.take_nil,ha,h1]
  simp [dots]
theorem num_hex(n:Nat)(hn:n<4294967296)(a:Bool):tokF (hexed n a++[72])=.ok (3,[],Sp.sgn n,(hexed n a).length+1):=by
 obtain⟨h1,h2,c,t,h3,h4⟩:=hexed_facts n a
 have hx:(hexed n a++[72]).takeWhile hexa=hexed n a:=tw_of hexa h2 fun x u e=>by simp at e;rw [← e.1];decide
 have ht:tokF (hexed n a++[72])=numT (hexed n a++[72]):=by rw [h3,List.cons_append];exact tok_digit h4
 rw [ht]
 unfold numT
 rw [hx]
 simp only [List.drop_left,h1]
 simp [hn]
theorem num_char(n:Nat)(a:Bool):tokF (hexed n a++[88])=if n<256 then .ok (4,[],(n:Int),(hexed n a).length+1)else .error 91:=by
 obtain⟨h1,h2,c,t,h3,h4⟩:=hexed_facts n a
 have hx:(hexed n a++[88]).takeWhile hexa=hexed n a:=tw_of hexa h2 fun x u e=>by simp at e;rw [← e.1];decide
 have ht:tokF (hexed n a++[88])=numT (hexed n a++[88]):=by rw [h3,List.cons_append];exact tok_digit h4
 rw [ht]
 unfold numT
 rw [hx]
 simp only [List.drop_left,h1]
 simp
end Tk
namespace Tk
theorem whole_self{w:List UInt8}{kd n:Int}(hw:w ≠ [])(h:tokF w=.ok (kd,w,n,w.length)):Good kd w n∧(kd=1∨kd=2∨kd=6):=by
 match w,hw with
 | c::t,_ =>
  unfold tokF at h
  simp only at h
  split at h
  ·rename_i hc
   obtain⟨h1,h2,h3,h4⟩:=word_kind h
   have hall:(c::t).all inside=true:=by rw [h2];exact List.all_eq_true.2 (tw_all _ _)
   rcases h4 with⟨rfl,h4⟩|⟨rfl,h4,h5⟩
   ·exact⟨.inr (.inl ⟨rfl,h1,h4⟩),by simp⟩
   ·exact⟨.inl ⟨rfl,h1,by simp only [word,hall,hc,decide_eq_true h5];rfl,h4⟩,by simp⟩
  ·split at h
   ·have:=(num_kind h).2
    cases this
   ·split at h
    ·have:=text_kind h
     have hl:=this.2.2.2.1
     omega
    ·obtain⟨h1,h2,h3⟩:=sign_kind h
     subst h1
     exact⟨.inr (.inr (.inr (.inr (.inr ⟨rfl,h2,h3⟩)))),by simp⟩
theorem word_whole{w:List UInt8}(h:w.all inside=true)(hc:∃ c t,w=c::t∧letter c=true):tokF w=if w∈keys then .ok (2,w,0,w.length)else if 24<w.length then .error 2 else .ok (1,w,0,w.length):=by
 obtain⟨c,t,rfl,hl⟩:=hc
 rw [tok_word hl]
 unfold wordT
 rw [tw_self inside (c::t) (List.all_eq_true.1 h)]
theorem sign_whole{w:List UInt8}(h:sign w):w ≠ []∧w.length≤66∧opens w=false∧tokF w=.ok (6,w,0,w.length):=by
 rcases h with h|⟨c,rfl,h⟩
 ·simp only [signs2,List.mem_cons,List.not_mem_nil,or_false]at h
  rcases h with rfl|rfl|rfl|rfl <;> exact⟨by decide,by decide,by decide +kernel,by rfl⟩
 ·simp only [signs1,List.mem_cons,List.not_mem_nil,or_false]at h
  rcases h with rfl|rfl|rfl|rfl|rfl|rfl|rfl|rfl|rfl|rfl|rfl|rfl|rfl|rfl|rfl|rfl|rfl|rfl|rfl|rfl|rfl|rfl <;> exact⟨by decide,by decide,by decide +kernel,by rfl⟩
theorem text_whole(w:List UInt8)(h:∀ c∈w,plain c=true):tokF (34::(w++[34]))=if 64<w.length then .error 2 else .ok (5,w,0,w.length+2):=by
 have hx:(w++[34]).takeWhile plain=w:=tw_of plain h fun x u e=>by simp at e;rw [← e.1];decide
 unfold tokF
 simp only
 rw [if_neg (by decide),if_neg (by decide),if_pos trivial]
 unfold textT
 rw [hx]
 simp
end Tk
namespace Tk
theorem decN_len(n k:Nat)(h:n<10 ^ (k+1)):(decN n).length≤k+1:=by
 induction k generalizing n with
 | zero =>
  rw [decN,dif_pos (by simpa using h)]
  simp
 | succ k ih =>
  rw [decN]
  split
  ·simp
  ·have:=ih (n / 10) (by rw [Nat.div_lt_iff_lt_mul (by omega)];rw [Nat.pow_succ]at h;omega)
   simp;omega
theorem hexN_len(n k:Nat)(h:n<16 ^ (k+1)):(hexN n).length≤k+1:=by
 induction k generalizing n with
 | zero =>
  rw [hexN,dif_pos (by simpa using h)]
  simp
 | succ k ih =>
  rw [hexN]
  split
  ·simp
  ·have:=ih (n / 16) (by rw [Nat.div_lt_iff_lt_mul (by omega)];rw [Nat.pow_succ]at h;omega)
   simp;omega
theorem hexed_len(n:Nat)(a:Bool)(h:n<4294967296):(hexed n a).length≤9:=by
 have:=hexN_len n 7 (by simpa using h)
 unfold hexed
 match hl:hexN n with
 | []=>simp
 | c::t =>
  rw [hl]at this
  simp only
  split <;> simp at this ⊢ <;> omega
theorem sgn_self{n:Int}(h0 : -2147483648≤n)(h1:n<2147483648):Sp.sgn (n % 4294967296)=n:=Sp.sgn_word n ((Sp.fit_iff n).2 ⟨h0,h1⟩)
theorem spell_1{kd:Int}{w:List UInt8}{n:Int}(h:kd=1∨kd=2∨kd=6):spell kd w n=w:=by
 unfold spell
 rcases h with rfl|rfl|rfl <;> simp
theorem good_spelt{kd:Int}{w:List UInt8}{n:Int}(h:Good kd w n):Spelt (spell kd w n) kd w n:=by
 rcases h with⟨rfl,rfl,h1,h2⟩|⟨rfl,rfl,h1⟩|⟨rfl,rfl,h1,h2⟩|⟨rfl,rfl,h1,h2⟩|⟨rfl,rfl,h1,h2⟩|⟨rfl,rfl,h1⟩
 ·rw [spell_1 (by simp)]
  simp only [word,Bool.and_eq_true,decide_eq_true_eq]at h1
  obtain⟨⟨g1,g2⟩,g3⟩:=h1
  match w,g3 with
  | c::t,g3 =>
   refine⟨by simp,by omega,opens_letter t (.inl g3),?_⟩
   rw [word_whole g2 ⟨c,t,rfl,g3⟩,if_neg h2,if_neg (by omega)]
 ·rw [spell_1 (by simp)]
  obtain⟨g2,⟨c,t,rfl,g3⟩,g1⟩:=keys_word w h1
  refine⟨by simp,by omega,opens_letter t (.inl g3),?_⟩
  rw [word_whole g2 ⟨c,t,rfl,g3⟩,if_pos h1]
 ·unfold spell
  rw [if_pos rfl]
  by_cases hn:n<0
  ·rw [if_pos hn]
   obtain⟨e1,e2,c,t,e3,e4⟩:=hexed_facts (n % 4294967296).toNat true
   have hl:=hexed_len (n % 4294967296).toNat true (by omega)
   have ht:=num_hex (n % 4294967296).toNat (by omega) true
   rw [show((n % 4294967296).toNat:Int)=n % 4294967296 from by omega,sgn_self h1 h2]at ht
   refine⟨by simp,by simp;omega,?_,?_⟩
   ·rw [e3,List.cons_append];exact opens_letter _ (.inr (.inl e4))
   ·rw [ht];simp
  ·rw [if_neg hn]
   obtain⟨e1,e2,e3⟩:=decN_facts n.toNat
   have hl:=decN_len n.toNat 9 (by have:(10:Nat) ^ (9+1)=10000000000:=(by decide);omega)
   have ht:=num_dec n.toNat
   rw [if_pos (by omega),show(n.toNat:Int)=n from by omega]at ht
   match hd:decN n.toNat,e3 with
   | c::t,_ =>
    rw [hd]at e2 hl ht
    exact⟨by simp,by omega,opens_letter t (.inr (.inl (e2 c (List.mem_cons_self ..)))),ht⟩
 ·unfold spell
  rw [if_neg (by decide),if_pos rfl]
  obtain⟨e1,e2,c,t,e3,e4⟩:=hexed_facts (n % 4294967296).toNat false
  have hl:=hexed_len (n % 4294967296).toNat false (by omega)
  have ht:=num_char (n % 4294967296).toNat false
  rw [if_pos (by omega),show((n % 4294967296).toNat:Int)=n from by omega]at ht
  refine⟨by simp,by simp;omega,?_,?_⟩
  ·rw [e3,List.cons_append];exact opens_letter _ (.inr (.inl e4))
  ·rw [ht];simp
 ·unfold spell
  rw [if_neg (by decide),if_neg (by decide),if_pos rfl]
  refine⟨by simp,by simp;omega,opens_letter _ (.inr (.inr rfl)),?_⟩
  rw [text_whole w h2,if_neg (by omega)]
  simp
 ·rw [spell_1 (by simp)]
  exact sign_whole h1
theorem spelt_good{kd:Int}{w:List UInt8}{n:Int}(h:Spelt (spell kd w n) kd w n):Good kd w n:=by
 obtain⟨h1,h2,h3,h4⟩:=h
 by_cases k3:kd=3
 ·subst k3
  unfold spell at h4
  rw [if_pos rfl]at h4
  split at h4
  ·rename_i hn
   rw [num_hex (n % 4294967296).toNat (by omega) true]at h4
   simp at h4
   have hb:=Sp.sgn_bd (n % 4294967296) (by omega) (by omega)
   rw [show max (n % 4294967296) 0=n % 4294967296 from by omega]at h4
   exact .inr (.inr (.inl ⟨rfl,h4.1,by omega,by omega⟩))
  ·rename_i hn
   rw [num_dec]at h4
   split at h4
   ·simp at h4
    exact .inr (.inr (.inl ⟨rfl,h4.1,by omega,by omega⟩))
   ·cases h4
 by_cases k4:kd=4
 ·subst k4
  unfold spell at h4
  rw [if_neg (by decide),if_pos rfl,num_char]at h4
  split at h4
  ·simp at h4
   exact .inr (.inr (.inr (.inl ⟨rfl,h4.1,by omega,by omega⟩)))
  ·cases h4
 by_cases k5:kd=5
 ·subst k5
  unfold spell at h4
  rw [if_neg (by decide),if_neg (by decide),if_pos rfl]at h4
  unfold tokF at h4
  simp only at h4
  rw [if_neg (by decide),if_neg (by decide),if_pos trivial]at h4
  obtain⟨-,e2,e3,e4,e5⟩:=text_kind h4
  refine .inr (.inr (.inr (.inr (.inl ⟨rfl,e2,e5,?_⟩))))
  rw [e3]
  exact tw_all _ _
 have hs:spell kd w n=w:=by unfold spell;rw [if_neg k3,if_neg k4,if_neg k5]
 rw [hs]at h1 h4
 exact(whole_self h1 h4).1
theorem spelt_iff(kd:Int)(w:List UInt8)(n:Int):Spelt (spell kd w n) kd w n ↔ Good kd w n:=⟨spelt_good,good_spelt⟩
theorem Spelt.whole{s:List UInt8}{kd:Int}{w:List UInt8}{n:Int}(h:Spelt s kd w n):Whole s (kd,w,n):=⟨h.1,h.2.2.1,h.2.2.2⟩
end Tk
open Go.RowKit
namespace Tk
def lx(n:Nat):UInt8:=if n<10 then UInt8.ofNat (48+n)else UInt8.ofNat (87+n)
def lexN16(n:Nat):List UInt8:=if h:n<16 then [lx n]else lexN16 (n / 16)++[lx (n % 16)]
termination_by n
decreasing_by omega
theorem lexN16_small{n:Nat}(h:n<16):lexN16 n=[lx n]:=by rw [lexN16,dif_pos h]
theorem lexN16_big{n:Nat}(h:¬ n<16):lexN16 n=lexN16 (n / 16)++[lx (n % 16)]:=by rw [lexN16,dif_neg h]
abbrev digs36:ByteArray:=⟨#[48,49,50,51,52,53,54,55,56,57,97,98,99,100,101,102,103,104,105,106,107,108,109,110,111,112,113,114,115,116,117,118,119,120,121,122]⟩
theorem digs_at(d:Nat)(h:d<16)(h2:d<digs36.size):digs36[d]'h2=lx d:=by
 have:d=0∨d=1∨d=2∨d=3∨d=4∨d=5∨d=6∨d=7∨d=8∨d=9∨d=10∨d=11∨d=12∨d=13∨d=14∨d=15:=by omega
 rcases this with rfl|rfl|rfl|rfl|rfl|rfl|rfl|rfl|rfl|rfl|rfl|rfl|rfl|rfl|rfl|rfl <;> rfl
def byteCells(l:List UInt8):List Value:=l.map fun c=>Value.int .u8 (c.toNat:Int)
theorem set_drop{A:Array Value}{i:Nat}{l:List Value}(hi:i<A.size)(h:A.toList.drop (i+1)=l)(v:Value):(A.setIfInBounds i v).toList.drop i=v::l∧(A.setIfInBounds i v).size=A.size:=by
 refine⟨?_,by simp⟩
 rw [Array.toList_setIfInBounds,List.drop_eq_getElem_cons (by simpa using hi)]
 congr 1
 ·simp
 ·rw [List.drop_set];simp [h]
theorem and15(u:Nat)(hu:u<18446744073709551616):bits .and .u64 (u:Int) 15=((u % 16:Nat):Int):=by
 have:=u64_and_nat u 15 hu (by decide)
 rw [show u &&& 15=u % 16 from Nat.and_two_pow_sub_one_eq_mod u 4]at this
 simpa using this
theorem lx_lt(n:Nat)(h:n<16):(lx n).toNat<128:=by
 have:n=0∨n=1∨n=2∨n=3∨n=4∨n=5∨n=6∨n=7∨n=8∨n=9∨n=10∨n=11∨n=12∨n=13∨n=14∨n=15:=by omega
 rcases this with rfl|rfl|rfl|rfl|rfl|rfl|rfl|rfl|rfl|rfl|rfl|rfl|rfl|rfl|rfl|rfl <;> decide
theorem lexN16_lt(n:Nat):∀ c∈lexN16 n,c.toNat<128:=by
 induction n using Nat.strongRecOn with
 | _ n ih =>
  by_cases h:n<16
  ·rw [lexN16_small h];intro c hc;simp at hc;subst hc;exact lx_lt n h
  ·rw [lexN16_big h]
   intro c hc
   rcases List.mem_append.1 hc with hc|hc
   ·exact ih (n / 16) (by omega) c hc
   ·simp at hc;subst hc;exact lx_lt _ (by omega)
theorem lexN16_ne(n:Nat):lexN16 n ≠ []:=by
 by_cases h:n<16
 ·rw [lexN16_small h];simp
 ·rw [lexN16_big h];simp
end Tk
namespace Tk
theorem upper_lx(n:Nat)(h:n<16):Lib.upperB (lx n)=hx n:=by
 have:n=0∨n=1∨n=2∨n=3∨n=4∨n=5∨n=6∨n=7∨n=8∨n=9∨n=10∨n=11∨n=12∨n=13∨n=14∨n=15:=by omega
 rcases this with rfl|rfl|rfl|rfl|rfl|rfl|rfl|rfl|rfl|rfl|rfl|rfl|rfl|rfl|rfl|rfl <;> decide
theorem upper_hex(n:Nat):Lib.toUpperA (lexN16 n)=hexN n:=by
 induction n using Nat.strongRecOn with
 | _ n ih =>
  by_cases h:n<16
  ·rw [lexN16_small h,hexN,dif_pos h]
   simp [Lib.toUpperA,upper_lx n h]
  ·rw [lexN16_big h,hexN,dif_neg h]
   have:=ih (n / 16) (by omega)
   unfold Lib.toUpperA at this ⊢
   rw [List.map_append,this]
   simp [upper_lx _ (Nat.mod_lt n (by decide:0<16))]
theorem dec_eq(n:Nat):Lib.decDigits n=decN n:=by
 induction n using Nat.strongRecOn with
 | _ n ih =>
  rw [Lib.decDigits,decN]
  by_cases h:n<10
  ·rw [dif_pos h,dif_pos h]
  ·rw [dif_neg h,dif_neg h,ih (n / 10) (by omega)]
end Tk
end Go.Proofs.YthkegfdijohpaaaGreatDoor
