/- The tokens of a text,by plain definition. No program in sight. What follows a token does not change it,as long as it does not go on with it. No program in sight. The tokens of two texts with a line's end between them. No program in sight. What a good token is,and what kind of token is read. No program in sight. Conditions: none. -/
import Derived.Test.YtlhmkfcbldghfaaGreatDoorNumP
namespace Go.Proofs.YtlhmkfcbldghfaaGreatDoor
set_option linter.all false
namespace Tk
def letter(c:UInt8):Bool:=(decide (97≤c.toNat) && decide (c.toNat≤122)) || (decide (65≤c.toNat) && decide (c.toNat≤90))
def digit(c:UInt8):Bool:=decide (48≤c.toNat) && decide (c.toNat≤57)
def hexa(c:UInt8):Bool:=digit c || (decide (65≤c.toNat) && decide (c.toNat≤70))
def inside(c:UInt8):Bool:=letter c || digit c
def blank(c:UInt8):Bool:=c == 9 || c == 10 || c == 13 || c == 32
def plain(c:UInt8):Bool:=decide (32≤c.toNat) && c != 34
def cmt:List UInt8→Int→Option Nat
 | [],_=>none
 | [_],_=>none
 | a::b::t,d =>
  if a=40∧b=42 then(cmt t (d+1)).map (·+2)
  else if a=42∧b=41 then(if d=1 then some 2 else(cmt t (d - 1)).map (·+2))
  else(cmt (b::t) d).map (·+1)
def opens(l:List UInt8):Bool:=l.take 2 == [40,42]
def dig(c:UInt8):Nat:=if c.toNat≤57 then c.toNat - 48 else c.toNat - 55
def val(b:Nat)(l:List UInt8):Nat:=l.foldl (fun n c=>n * b+dig c) 0
abbrev R:Type:=Except Int (Int × List UInt8 × Int × Nat)
def dots(l:List UInt8):Bool:=l.take 1 == [46] && l.take 2 != [46,46]
def numT(l:List UInt8):R:=
 let d:=l.takeWhile hexa
 let rest:=l.drop d.length
 if rest.take 1=[72]then(if val 16 d<4294967296 then .ok (3,[],Sp.sgn (val 16 d),d.length+1)else .error 91)
 else if rest.take 1=[88]then(if val 16 d<256 then .ok (4,[],val 16 d,d.length+1)else .error 91)
 else if (!d.all digit || dots rest)=true then .error 90
 else if val 10 d<2147483648 then .ok (3,[],val 10 d,d.length)else .error 91
def keys:List (List UInt8):=["ARRAY", "BEGIN", "BY", "CASE", "CONST", "DIV", "DO", "ELSE", "ELSIF", "END", "FALSE", "FOR", "IF", "IMPORT", "IN", "IS", "MOD", "MODULE", "NIL", "OF", "OR", "POINTER", "PROCEDURE", "RECORD", "REPEAT", "RETURN", "THEN", "TO", "TRUE", "TYPE", "UNTIL", "VAR", "WHILE"].map (·.toUTF8.data.toList)
def signs2:List (List UInt8):=[[58,61],[46,46],[60,61],[62,61]]
def signs1:List UInt8:=[43,45,42,47,38,126,46,44,59,124,40,91,123,94,61,35,60,62,58,41,93,125]
def wordT(l:List UInt8):R:=
 let w:=l.takeWhile inside
 if w∈keys then .ok (2,w,0,w.length)else if 24<w.length then .error 2 else .ok (1,w,0,w.length)
def textT(t:List UInt8):R:=
 let w:=t.takeWhile plain
 if (t.drop w.length).take 1=[34]then(if 64<w.length then .error 2 else .ok (5,w,0,w.length+2))else .error 90
def signT(l:List UInt8):R:=
 if l.take 2∈signs2 then .ok (6,l.take 2,0,2)
 else match l with
  | c::_=>if c∈signs1 then .ok (6,[c],0,1)else .error 90
  | [] => .error 90
def tokF(l:List UInt8):R:=
 match l with
 | [] => .error 90
 | c::t=>if letter c=true then wordT l else if digit c=true then numT l else if c=34 then textT t else signT l
theorem take_len(p:UInt8→Bool)(l:List UInt8):(l.takeWhile p).length≤l.length:=by
 induction l with
 | nil=>simp
 | cons a t ih=>rw [List.takeWhile_cons];split <;> simp;omega
theorem tokF_len{l:List UInt8}{k n:Int}{w:List UInt8}{m:Nat}(h:tokF l=.ok (k,w,n,m)):0<m∧m≤l.length:=by
 unfold tokF at h
 match l with
 | []=>cases h
 | c::t =>
  simp only at h
  split at h
  ·rename_i hc
   have hi:inside c=true:=by simp [inside,hc]
   have h1:0<((c::t).takeWhile inside).length:=by rw [List.takeWhile_cons,if_pos hi];simp
   have h2:=take_len inside (c::t)
   unfold wordT at h
   simp only at h
   split at h
   ·simp at h;omega
   ·split at h
    ·cases h
    ·simp at h;omega
  ·split at h
   ·rename_i hc
    have hi:hexa c=true:=by simp [hexa,hc]
    have h1:0<((c::t).takeWhile hexa).length:=by rw [List.takeWhile_cons,if_pos hi];simp
    have h2:=take_len hexa (c::t)
    have h3:∀ x,((c::t).drop ((c::t).takeWhile hexa).length).take 1=[x]→((c::t).takeWhile hexa).length+1≤(c::t).length:=by
     intro x hx
     have:=congrArg List.length hx
     simp only [List.length_take,List.length_drop,List.length_singleton]at this
     omega
    unfold numT at h
    simp only at h
    split at h
    ·rename_i hx
     have:=h3 _ hx
     split at h
     ·simp at h;simp at this ⊢;omega
     ·cases h
    ·split at h
     ·rename_i hx
      have:=h3 _ hx
      split at h
      ·simp at h;simp at this ⊢;omega
      ·cases h
     ·split at h
      ·cases h
      ·split at h
       ·simp at h;simp at h2 ⊢;omega
       ·cases h
   ·split at h
    ·unfold textT at h
     simp only at h
     have h2:=take_len plain t
     split at h
     ·rename_i hx
      have:=congrArg List.length hx
      simp only [List.length_take,List.length_drop,List.length_singleton]at this
      split at h
      ·cases h
      ·simp at h;simp;omega
     ·cases h
    ·unfold signT at h
     split at h
     ·rename_i hs
      have:((c::t).take 2).length=2:=by
       simp only [signs2,List.mem_cons,List.not_mem_nil,or_false]at hs
       rcases hs with e|e|e|e <;> rw [e] <;> rfl
      simp only [List.length_take]at this
      simp at h;omega
     ·simp only at h
      split at h
      ·simp at h;simp;omega
      ·cases h
theorem cmt_len(l:List UInt8)(d:Int)(n:Nat)(h:cmt l d=some n):2≤n∧n≤l.length:=by
 induction l,d using cmt.induct generalizing n with
 | case1=>simp [cmt]at h
 | case2=>simp [cmt]at h
 | case3 d a b t hab ih =>
  simp only [cmt,hab,if_true,and_self]at h
  obtain⟨m,hm,rfl⟩:=Option.map_eq_some_iff.1 h
  have:=ih m hm
  simp;omega
 | case4 a b t hab hab2 =>
  simp only [cmt,if_neg hab,if_pos hab2,if_true]at h
  simp at h;simp;omega
 | case5 d a b t hab hab2 hd ih =>
  simp only [cmt,if_neg hab,if_pos hab2,if_neg hd]at h
  obtain⟨m,hm,rfl⟩:=Option.map_eq_some_iff.1 h
  have:=ih m hm
  simp;omega
 | case6 d a b t hab hab2 ih =>
  simp only [cmt,if_neg hab,if_neg hab2]at h
  obtain⟨m,hm,rfl⟩:=Option.map_eq_some_iff.1 h
  have:=ih m hm
  simp at this ⊢;omega
abbrev Tok:Type:=Int × List UInt8 × Int × Int
def lexF(l:List UInt8)(at_ k:Nat):Except (Nat × Int) (List Tok):=
 match l with
 | [] => .ok []
 | c::t =>
  if blank c=true then lexF t (at_+1) k
  else if opens (c::t)=true then
   match hc:cmt (c::t) 0 with
   | none => .error (at_,90)
   | some n=>lexF ((c::t).drop n) (at_+n) k
  else match ht:tokF (c::t)with
   | .error e => .error (at_,e)
   | .ok (kd,w,n,m) =>
    if k=6000 then .error (at_,3)
    else match lexF ((c::t).drop m) (at_+m) (k+1)with
     | .error e => .error e
     | .ok r => .ok ((kd,w,n,at_)::r)
termination_by l.length
decreasing_by
 ·simp
 ·have:=cmt_len _ _ _ hc;simp at this ⊢;omega
 ·have:=tokF_len ht;simp at this ⊢;omega
end Tk
namespace Tk
theorem tw_all(p:UInt8→Bool)(l:List UInt8):∀ c∈l.takeWhile p,p c=true:=by
 induction l with
 | nil=>simp
 | cons a t ih =>
  rw [List.takeWhile_cons]
  split
  ·rename_i h
   intro c hc
   rcases List.mem_cons.1 hc with rfl|hc
   ·exact h
   ·exact ih c hc
  ·simp
theorem tw_of(p:UInt8→Bool){x z:List UInt8}(hx:∀ c∈x,p c=true)(hz:∀ c t,z=c::t→p c=false):(x++z).takeWhile p=x:=by
 induction x with
 | nil =>
  match z,hz with
  | [],_=>rfl
  | c::t,hz=>rw [List.nil_append,List.takeWhile_cons,hz c t rfl];rfl
 | cons a x ih =>
  rw [List.cons_append,List.takeWhile_cons,if_pos (hx a (List.mem_cons_self ..)),ih fun c hc=>hx c (List.mem_cons_of_mem _ hc)]
end Tk
namespace Tk
theorem lexF_nil(p k:Nat):lexF [] p k=.ok []:=by rw [lexF]
theorem lexF_blank{c:UInt8}{t:List UInt8}(p k:Nat)(h:blank c=true):lexF (c::t) p k=lexF t (p+1) k:=by
 rw [lexF,if_pos h]
theorem lexF_cmt{c:UInt8}{t:List UInt8}(p k:Nat)(h:blank c=false)(ho:opens (c::t)=true){n:Nat}(hc:cmt (c::t) 0=some n):lexF (c::t) p k=lexF ((c::t).drop n) (p+n) k:=by
 rw [lexF,if_neg (by simp [h]),if_pos ho]
 split
 ·rename_i h2;rw [hc]at h2;cases h2
 ·rename_i m h2;rw [hc]at h2;simp at h2;rw [h2]
theorem lexF_cmt_none{c:UInt8}{t:List UInt8}(p k:Nat)(h:blank c=false)(ho:opens (c::t)=true)(hc:cmt (c::t) 0=none):lexF (c::t) p k=.error (p,90):=by
 rw [lexF,if_neg (by simp [h]),if_pos ho]
 split
 ·rfl
 ·rename_i m h2;rw [hc]at h2;cases h2
theorem lexF_err{c:UInt8}{t:List UInt8}(p k:Nat)(h:blank c=false)(ho:opens (c::t)=false){e:Int}(ht:tokF (c::t)=.error e):lexF (c::t) p k=.error (p,e):=by
 rw [lexF,if_neg (by simp [h]),if_neg (by simp [ho])]
 split
 ·rename_i e' h2;rw [ht]at h2;simp at h2;rw [h2]
 ·rename_i h2;rw [ht]at h2;cases h2
theorem lexF_tok{c:UInt8}{t:List UInt8}(p k:Nat)(h:blank c=false)(ho:opens (c::t)=false){kd n:Int}{w:List UInt8}{m:Nat}(ht:tokF (c::t)=.ok (kd,w,n,m)) :
  lexF (c::t) p k=if k=6000 then .error (p,3)else match lexF ((c::t).drop m) (p+m) (k+1)with | .error e => .error e | .ok r => .ok ((kd,w,n,(p:Int))::r):=by
 rw [lexF,if_neg (by simp [h]),if_neg (by simp [ho])]
 split
 ·rename_i e' h2;rw [ht]at h2;cases h2
 ·rename_i h2;rw [ht]at h2;simp at h2;obtain⟨rfl,rfl,rfl,rfl⟩:=h2;rfl
end Tk
namespace Tk
def word(w:List UInt8):Bool:=decide (w.length≤24) && w.all inside && (match w with|[]=>false|c::_=>letter c)
def sign(w:List UInt8):Prop:=w∈signs2∨∃ c,w=[c]∧c∈signs1
def Good(kd:Int)(w:List UInt8)(n:Int):Prop:=
 (kd=1∧n=0∧word w=true∧w ∉ keys)∨(kd=2∧n=0∧w∈keys)∨(kd=3∧w=[] ∧ -2147483648≤n∧n<2147483648)∨(kd=4∧w=[]∧0≤n∧n<256) ∨
 (kd=5∧n=0∧w.length≤64∧∀ c∈w,plain c=true)∨(kd=6∧n=0∧sign w)
def Spelt(s:List UInt8)(kd:Int)(w:List UInt8)(n:Int):Prop:=s ≠ []∧s.length≤66∧opens s=false∧tokF s=.ok (kd,w,n,s.length)
theorem keys_word:∀ w∈keys,w.all inside=true∧(∃ c t,w=c::t∧letter c=true)∧w.length≤24:=by
 have:keys.all (fun w=>w.all inside && (match w with|[]=>false|c::_=>letter c) && decide (w.length≤24))=true:=by decide +kernel
 intro w hw
 have:=List.all_eq_true.1 this w hw
 simp only [Bool.and_eq_true,decide_eq_true_eq]at this
 obtain⟨⟨h1,h2⟩,h3⟩:=this
 refine⟨h1,?_,h3⟩
 match w,h2 with
 | c::t,h2=>exact⟨c,t,rfl,h2⟩
theorem opens_letter{c:UInt8}(t:List UInt8)(h:letter c=true∨digit c=true∨c=34):opens (c::t)=false:=by
 have hc:c ≠ 40:=by
  rintro rfl
  rcases h with h|h|h <;> revert h <;> decide
 match t with
 | [] =>
  have:([c] == ([40,42]:List UInt8))=false:=by simp
  simp [opens,this]
 | a::u=>simp [opens,hc]
theorem tok_word{c:UInt8}{t:List UInt8}(h:letter c=true):tokF (c::t)=wordT (c::t):=by
 unfold tokF;simp only;rw [if_pos h]
theorem word_kind{l:List UInt8}{kd n:Int}{w:List UInt8}{m:Nat}(h:wordT l=.ok (kd,w,n,m)):n=0∧w=l.takeWhile inside∧m=w.length∧((kd=2∧w∈keys)∨(kd=1∧w ∉ keys∧w.length≤24)):=by
 unfold wordT at h
 simp only at h
 split at h
 ·rename_i hk
  simp at h
  obtain⟨rfl,rfl,rfl,rfl⟩:=h
  exact⟨rfl,rfl,rfl,.inl ⟨rfl,hk⟩⟩
 ·rename_i hk
  split at h
  ·cases h
  ·simp at h
   obtain⟨rfl,rfl,rfl,rfl⟩:=h
   exact⟨rfl,rfl,rfl,.inr ⟨rfl,hk,by omega⟩⟩
theorem num_kind{l:List UInt8}{kd n:Int}{w:List UInt8}{m:Nat}(h:numT l=.ok (kd,w,n,m)):(kd=3∨kd=4)∧w=[]:=by
 unfold numT at h
 simp only at h
 split at h
 ·split at h
  ·simp at h;exact⟨.inl h.1.symm,h.2.1⟩
  ·cases h
 ·split at h
  ·split at h
   ·simp at h;exact⟨.inr h.1.symm,h.2.1⟩
   ·cases h
  ·split at h
   ·cases h
   ·split at h
    ·simp at h;exact⟨.inl h.1.symm,h.2.1⟩
    ·cases h
theorem text_kind{l:List UInt8}{kd n:Int}{w:List UInt8}{m:Nat}(h:textT l=.ok (kd,w,n,m)):kd=5∧n=0∧w=l.takeWhile plain∧m=w.length+2∧w.length≤64:=by
 unfold textT at h
 simp only at h
 split at h
 ·split at h
  ·cases h
  ·simp at h
   obtain⟨rfl,rfl,rfl,rfl⟩:=h
   exact⟨rfl,rfl,rfl,rfl,by omega⟩
 ·cases h
theorem sign_kind{l:List UInt8}{kd n:Int}{w:List UInt8}{m:Nat}(h:signT l=.ok (kd,w,n,m)):kd=6∧n=0∧sign w:=by
 unfold signT at h
 split at h
 ·rename_i hs
  simp at h
  obtain⟨rfl,rfl,rfl,rfl⟩:=h
  exact⟨rfl,rfl,.inl hs⟩
 ·split at h
  ·rename_i c t hct
   split at h
   ·rename_i hc
    simp at h
    obtain⟨rfl,rfl,rfl,rfl⟩:=h
    exact⟨rfl,rfl,.inr ⟨c,rfl,hc⟩⟩
   ·cases h
  ·cases h
end Tk
namespace Tk
theorem tokF_errs{l:List UInt8}{c:Int}(h:tokF l=.error c):c ≠ 0:=by
 intro h0
 subst h0
 unfold tokF at h
 split at h
 ·injection h with h;omega
 ·split at h
  ·unfold wordT at h;simp only at h
   split at h
   ·cases h
   ·split at h
    ·injection h with h;omega
    ·cases h
  ·split at h
   ·unfold numT at h;simp only at h
    split at h
    ·split at h
     ·cases h
     ·injection h with h;omega
    ·split at h
     ·split at h
      ·cases h
      ·injection h with h;omega
     ·split at h
      ·injection h with h;omega
      ·split at h
       ·cases h
       ·injection h with h;omega
   ·split at h
    ·unfold textT at h;simp only at h
     split at h
     ·split at h
      ·injection h with h;omega
      ·cases h
     ·injection h with h;omega
    ·unfold signT at h
     split at h
     ·cases h
     ·split at h
      ·split at h
       ·cases h
       ·injection h with h;omega
      ·injection h with h;omega
theorem lex_err_at(l:List UInt8)(p k q:Nat)(e:Int)(h:lexF l p k=.error (q,e)):p≤q∧q<p+l.length∧e ≠ 0:=by
 induction hn:l.length using Nat.strongRecOn generalizing l p k with
 | _ N ih =>
  match l,hn with
  | [],hn=>rw [lexF_nil]at h;cases h
  | c::t,hn =>
   have hl:(c::t).length=t.length+1:=rfl
   cases hb:blank c
   ·cases ho:opens (c::t)
    ·cases ht:tokF (c::t)with
     | error e' =>
      rw [lexF_err _ _ hb ho ht]at h
      simp only [Except.error.injEq,Prod.mk.injEq]at h
      obtain⟨rfl,rfl⟩:=h
      exact⟨by omega,by omega,tokF_errs ht⟩
     | ok v =>
      obtain⟨kd,w,n,m⟩:=v
      have hm:=tokF_len ht
      rw [lexF_tok _ _ hb ho ht]at h
      split at h
      ·simp only [Except.error.injEq,Prod.mk.injEq]at h
       obtain⟨rfl,rfl⟩:=h
       exact⟨by omega,by omega,by decide⟩
      ·have hd:((c::t).drop m).length=(c::t).length - m:=List.length_drop ..
       cases hr:lexF ((c::t).drop m) (p+m) (k+1)with
       | error e' =>
        rw [hr]at h
        simp only [Except.error.injEq]at h
        subst h
        have:=ih _ (by rw [hd];omega) ((c::t).drop m) (p+m) (k+1) hr rfl
        rw [hd]at this
        exact⟨by omega,by omega,this.2.2⟩
       | ok r=>rw [hr]at h;cases h
    ·cases hc:cmt (c::t) 0 with
     | none =>
      rw [lexF_cmt_none _ _ hb ho hc]at h
      simp only [Except.error.injEq,Prod.mk.injEq]at h
      obtain⟨rfl,rfl⟩:=h
      exact⟨by omega,by omega,by decide⟩
     | some m =>
      have hm:=cmt_len _ _ _ hc
      rw [lexF_cmt _ _ hb ho hc]at h
      have hd:((c::t).drop m).length=(c::t).length - m:=List.length_drop ..
      have:=ih _ (by rw [hd];omega) ((c::t).drop m) (p+m) k h rfl
      rw [hd]at this
      exact⟨by omega,by omega,this.2.2⟩
   ·rw [lexF_blank _ _ hb]at h
    have:=ih t.length (by omega) t (p+1) k h rfl
    exact⟨by omega,by omega,this.2.2⟩
end Tk
namespace Tk
def lexM:Nat→List UInt8→Nat→Nat→Except (Nat × Int) (List Tok)
 | 0,_,_,_ => .error (0,999)
 | _+1,[],_,_ => .ok []
 | f+1,c::t,p,k =>
  if blank c=true then lexM f t (p+1) k
  else if opens (c::t)=true then(match cmt (c::t) 0 with|none => .error (p,90)|some m=>lexM f ((c::t).drop m) (p+m) k)
  else match tokF (c::t)with
   | .error e => .error (p,e)
   | .ok (kd,w,n,m)=>if k=6000 then .error (p,3)else match lexM f ((c::t).drop m) (p+m) (k+1)with | .error e => .error e | .ok r => .ok ((kd,w,n,(p:Int))::r)
theorem lexM_eq(f:Nat):∀(l:List UInt8) (p k:Nat),l.length<f→lexM f l p k=lexF l p k:=by
 induction f with
 | zero=>intro l p k h;omega
 | succ f ih =>
  intro l p k h
  match l with
  | []=>rw [lexM,lexF_nil]
  | c::t =>
   rw [lexM]
   by_cases hb:blank c=true
   ·rw [if_pos hb,lexF_blank p k hb,ih t (p+1) k (by simp at h;omega)]
   ·rw [if_neg hb]
    have hb':blank c=false:=by simpa using hb
    by_cases ho:opens (c::t)=true
    ·rw [if_pos ho]
     cases hc:cmt (c::t) 0 with
     | none=>rw [lexF_cmt_none p k hb' ho hc]
     | some m =>
      have hm:=cmt_len _ _ _ hc
      rw [lexF_cmt p k hb' ho hc]
      exact ih _ _ _ (by simp at h hm ⊢ <;> omega)
    ·rw [if_neg ho]
     have ho':opens (c::t)=false:=by simpa using ho
     cases ht:tokF (c::t)with
     | error e=>rw [lexF_err p k hb' ho' ht]
     | ok v =>
      obtain⟨kd,w,n,m⟩:=v
      have hm:=tokF_len ht
      rw [lexF_tok p k hb' ho' ht]
      simp only
      rw [ih _ _ _ (by simp at h hm ⊢ <;> omega)]
      all_goals
       by_cases h6:k=6000
       ·rw [if_pos h6,if_pos h6]
       ·rw [if_neg h6,if_neg h6]
        cases lexF (List.drop m (c::t)) (p+m) (k+1) <;> rfl
end Tk
end Go.Proofs.YtlhmkfcbldghfaaGreatDoor
