/- The tokens of a text,by plain definition. No program in sight. What follows a token does not change it,as long as it does not go on with it. No program in sight. The tokens of two texts with a line's end between them. No program in sight. What a good token is,and what kind of token is read. No program in sight. Conditions: none. -/
import Derived.Test.YthkegfdijohpaaaGreatDoorNumP
namespace Go.Proofs.YthkegfdijohpaaaGreatDoor
set_option linter.all false
namespace Tk
def letter(c:UInt8):Bool:=(decide (97≤c.toNat) && decide (c.toNat≤122)) || (decide (65≤c.toNat) && decide (c.toNat≤90))
def digit(c:UInt8):Bool:=decide (48≤c.toNat) && decide (c.toNat≤57)
def hexa(c:UInt8):Bool:=digit c || (decide (65≤c.toNat) && decide (c.toNat≤70))
def inside(c:UInt8):Bool:=letter c || digit c
def blank(c:UInt8):Bool:=c == 9 || c == 10 || c == 13 || c == 32
def plain(c:UInt8):Bool:=decide (32≤c.toNat) && c != 34
def cmt:List UInt8→Int→Option Nat
 | [],_=>none
 | [_],_=>none
 | a::b::t,d =>
  if a=40∧b=42 then(cmt t (d+1)).map (·+2)
  else if a=42∧b=41 then(if d=1 then some 2 else(cmt t (d - 1)).map (·+2))
  else(cmt (b::t) d).map (·+1)
def opens(l:List UInt8):Bool:=l.take 2 == [40,42]
def dig(c:UInt8):Nat:=if c.toNat≤57 then c.toNat - 48 else c.toNat - 55
def val(b:Nat)(l:List UInt8):Nat:=l.foldl (fun n c=>n * b+dig c) 0
abbrev R:Type:=Except Int (Int × List UInt8 × Int × Nat)
def dots(l:List UInt8):Bool:=l.take 1 == [46] && l.take 2 != [46,46]
def numT(l:List UInt8):R:=
 let d:=l.takeWhile hexa
 let rest:=l.drop d.length
 if rest.take 1=[72]then(if val 16 d<4294967296 then .ok (3,[],Sp.sgn (val 16 d),d.length+1)else .error 91)
 else if rest.take 1=[88]then(if val 16 d<256 then .ok (4,[],val 16 d,d.length+1)else .error 91)
 else if (!d.all digit || dots rest)=true then .error 90
 else if val 10 d<2147483648 then .ok (3,[],val 10 d,d.length)else .error 91
def keys:List (List UInt8):=["ARRAY", "BEGIN", "BY", "CASE", "CONST", "DIV", "DO", "ELSE", "ELSIF", "END", "FALSE", "FOR", "IF", "IMPORT", "IN", "IS", "MOD", "MODULE", "NIL", "OF", "OR", "POINTER", "PROCEDURE", "RECORD", "REPEAT", "RETURN", "THEN", "TO", "TRUE", "TYPE", "UNTIL", "VAR", "WHILE"].map (·.toUTF8.data.toList)
def signs2:List (List UInt8):=[[58,61],[46,46],[60,61],[62,61]]
def signs1:List UInt8:=[43,45,42,47,38,126,46,44,59,124,40,91,123,94,61,35,60,62,58,41,93,125]
def wordT(l:List UInt8):R:=
 let w:=l.takeWhile inside
 if w∈keys then .ok (2,w,0,w.length)else if 24<w.length then .error 2 else .ok (1,w,0,w.length)
def textT(t:List UInt8):R:=
 let w:=t.takeWhile plain
 if (t.drop w.length).take 1=[34]then(if 64<w.length then .error 2 else .ok (5,w,0,w.length+2))else .error 90
def signT(l:List UInt8):R:=
 if l.take 2∈signs2 then .ok (6,l.take 2,0,2)
 else match l with
  | c::_=>if c∈signs1 then .ok (6,[c],0,1)else .error 90
  | [] => .error 90
def tokF(l:List UInt8):R:=
 match l with
 | [] => .error 90
 | c::t=>if letter c=true then wordT l else if digit c=true then numT l else if c=34 then textT t else signT l
theorem take_len(p:UInt8→Bool)(l:List UInt8):(l.takeWhile p).length≤l.length:=by
 induction l with
 | nil=>simp
 | cons a t ih=>rw [List.takeWhile_cons];split <;> simp;omega
theorem tokF_len{l:List UInt8}{k n:Int}{w:List UInt8}{m:Nat}(h:tokF l=.ok (k,w,n,m)):0<m∧m≤l.length:=by
 unfold tokF at h
 match l with
 | []=>cases h
 | c::t =>
  simp only at h
  split at h
  ·rename_i hc
   have hi:inside c=true:=by simp [inside,hc]
   have h1:0<((c::t).takeWhile inside).length:=by rw [List.takeWhile_cons,if_pos hi];simp
   have h2:=take_len inside (c::t)
   unfold wordT at h
   simp only at h
   split at h
   ·simp at h;omega
   ·split at h
    ·cases h
    ·simp at h;omega
  ·split at h
   ·rename_i hc
    have hi:hexa c=true:=by simp [hexa,hc]
    have h1:0<((c::t).takeWhile hexa).length:=by rw [List.takeWhile_cons,if_pos hi];simp
    have h2:=take_len hexa (c::t)
    have h3:∀ x,((c::t).drop ((c::t).takeWhile hexa).length).take 1=[x]→((c::t).takeWhile hexa).length+1≤(c::t).length:=by
     intro x hx
     have:=congrArg List.length hx
     simp only [List.length_take,List.length_drop,List.length_singleton]at this
     omega
    unfold numT at h
    simp only at h
    split at h
    ·rename_i hx
     have:=h3 _ hx
     split at h
     ·simp at h;simp at this ⊢;omega
     ·cases h
    ·split at h
     ·rename_i hx
      have:=h3 _ hx
      split at h
      ·simp at h;simp at this ⊢;omega
      ·cases h
     ·split at h
      ·cases h
      ·split at h
       ·simp at h;simp at h2 ⊢;omega
       ·cases h
   ·split at h
    ·unfold textT at h
     simp only at h
     have h2:=take_len plain t
     split at h
     ·rename_i hx
      have:=congrArg List.length hx
      simp only [List.length_take,List.length_drop,List.length_singleton]at this
      split at h
      ·cases h
      ·simp at h;simp;omega
     ·cases h
    ·unfold signT at h
     split at h
     ·rename_i hs
      have:((c::t).take 2).length=2:=by
       simp only [signs2,List.mem_cons,List.not_mem_nil,or_false]at hs
       rcases hs with e|e|e|e <;> rw [e] <;> rfl
      simp only [List.length_take]at this
      simp at h;omega
     ·simp only at h
      split at h
      ·simp at h;simp;omega
      ·cases h
theorem cmt_len(l:List UInt8)(d:Int)(n:Nat)(h:cmt l d=some n):2≤n∧n≤l.length:=by
 induction l,d using cmt.induct generalizing n with
 | case1=>simp [cmt]at h
 | case2=>simp [cmt]at h
 | case3 d a b t hab ih =>
  simp only [cmt,hab,if_true,and_self]at h
  obtain⟨m,hm,rfl⟩:=Option.map_eq_some_iff.1 h
  have:=ih m hm
  simp;omega
 | case4 a b t hab hab2 =>
  simp only [cmt,if_neg hab,if_pos hab2,if_true]at h
  simp at h;simp;omega
 | case5 d a b t hab hab2 hd ih =>
  simp only [cmt,if_neg hab,if_pos hab2,if_neg hd]at h
  obtain⟨m,hm,rfl⟩:=Option.map_eq_some_iff.1 h
  have:=ih m hm
  simp;omega
 | case6 d a b t hab hab2 ih =>
  simp only [cmt,if_neg hab,if_neg hab2]at h
  obtain⟨m,hm,rfl⟩:=Option.map_eq_some_iff.1 h
  have:=ih m hm
  simp at this ⊢;omega
abbrev Tok:Type:=Int × List UInt8 × Int × Int
def lexF(l:List UInt8)(at_ k:Nat):Except (Nat × Int) (List Tok):=
 match l with
 | [] => .ok []
 | c::t =>
  if blank c=true then lexF t (at_+1) k
  else if opens (c::t)=true then
   match hc:cmt (c::t) 0 with
   | none => .error (at_,90)
   | some n=>lexF ((c::t).drop n) (at_+n) k
  else match ht:tokF (c::t)with
   | .error e => .error (at_,e)
   | .ok (kd,w,n,m) =>
    if k=6000 then .error (at_,3)
    else match lexF ((c::t).drop m) (at_+m) (k+1)with
     | .error e => .error e
     | .ok r => .ok ((kd,w,n,at_)::r)
termination_by l.length
decreasing_by
 ·simp
 ·have:=cmt_len _ _ _ hc;simp at this ⊢;omega
 ·have:=tokF_len ht;simp at this ⊢;omega
end Tk
namespace Tk
def brk(z:List UInt8):Prop:=z=[]∨∃ c t,z=c::t∧(c=9∨c=10∨c=13∨c=32∨c=40)
def like(y z:List UInt8):Prop:=(z.take 1=y.take 1∧dots z=dots y)∨brk z
theorem tw_prefix(p:UInt8→Bool)(l:List UInt8):l.take (l.takeWhile p).length=l.takeWhile p:=by
 induction l with
 | nil=>rfl
 | cons a t ih =>
  rw [List.takeWhile_cons]
  split
  ·simp [ih]
  ·simp
theorem tw_eq{p:UInt8→Bool}{x y:List UInt8}(h:((x++y).takeWhile p).length=x.length):(x++y).takeWhile p=x:=by
 have:=tw_prefix p (x++y)
 rw [h]at this
 rw [← this];simp
theorem tw_all(p:UInt8→Bool)(l:List UInt8):∀ c∈l.takeWhile p,p c=true:=by
 induction l with
 | nil=>simp
 | cons a t ih =>
  rw [List.takeWhile_cons]
  split
  ·rename_i h
   intro c hc
   rcases List.mem_cons.1 hc with rfl|hc
   ·exact h
   ·exact ih c hc
  ·simp
theorem tw_of(p:UInt8→Bool){x z:List UInt8}(hx:∀ c∈x,p c=true)(hz:∀ c t,z=c::t→p c=false):(x++z).takeWhile p=x:=by
 induction x with
 | nil =>
  match z,hz with
  | [],_=>rfl
  | c::t,hz=>rw [List.nil_append,List.takeWhile_cons,hz c t rfl];rfl
 | cons a x ih =>
  rw [List.cons_append,List.takeWhile_cons,if_pos (hx a (List.mem_cons_self ..)),ih fun c hc=>hx c (List.mem_cons_of_mem _ hc)]
theorem tw_stop{p:UInt8→Bool}{x y:List UInt8}(h:(x++y).takeWhile p=x):∀ c t,y=c::t→p c=false:=by
 induction x with
 | nil =>
  intro c t hy
  subst hy
  rw [List.nil_append,List.takeWhile_cons]at h
  split at h
  ·cases h
  ·rename_i hc;simpa using hc
 | cons a x ih =>
  rw [List.cons_append,List.takeWhile_cons]at h
  split at h
  ·exact ih (by simpa using h)
  ·cases h
theorem brk_no{z:List UInt8}(h:brk z):∀ c t,z=c::t→inside c=false∧hexa c=false∧c ≠ 72∧c ≠ 88∧c ≠ 46∧c ≠ 61∧c ≠ 34:=by
 intro c t hz
 rcases h with rfl|⟨c',t',rfl,h⟩
 ·cases hz
 ·simp only [List.cons.injEq]at hz
  obtain⟨rfl,rfl⟩:=hz
  rcases h with rfl|rfl|rfl|rfl|rfl <;> decide
theorem like_no{p:UInt8→Bool}{y z:List UInt8}(hl:like y z)(hp:∀ c,inside c=false→hexa c=false→p c=false)(hy:∀ c t,y=c::t→p c=false):∀ c t,z=c::t→p c=false:=by
 intro c t hz
 rcases hl with⟨h1,_⟩|hb
 ·subst hz
  match y,h1 with
  | [],h1=>simp at h1
  | b::u,h1 =>
   simp at h1
   subst h1
   exact hy c u rfl
 ·have:=brk_no hb c t hz
  exact hp c this.1 this.2.1
theorem dots_brk{z:List UInt8}(h:brk z):dots z=false:=by
 rcases h with rfl|⟨c,t,rfl,h⟩
 ·rfl
 ·have:c ≠ 46:=by rcases h with rfl|rfl|rfl|rfl|rfl <;> decide
  simp [dots,this]
theorem take1_of_brk{z:List UInt8}(h:brk z)(x:UInt8)(hx:x=72∨x=88∨x=34):z.take 1 ≠ [x]:=by
 intro e
 rcases h with rfl|⟨c,t,rfl,h⟩
 ·simp at e
 ·simp at e
  subst e
  rcases hx with rfl|rfl|rfl <;> revert h <;> decide
theorem word_cut{x y z:List UInt8}{k n:Int}{w:List UInt8}(h:wordT (x++y)=.ok (k,w,n,x.length))(hl:like y z):wordT (x++z)=.ok (k,w,n,x.length):=by
 have hlen:((x++y).takeWhile inside).length=x.length:=by
  unfold wordT at h
  simp only at h
  split at h
  ·simp at h;exact h.2.2.2
  ·split at h
   ·cases h
   ·simp at h;exact h.2.2.2
 have hx:=tw_eq hlen
 have hall:∀ c∈x,inside c=true:=by rw [← hx];exact tw_all _ _
 have hz:=tw_of inside hall (like_no hl (fun c h _=>h) (tw_stop hx))
 unfold wordT at h ⊢
 rw [hx]at h
 rw [hz]
 exact h
theorem num_cut{x y z:List UInt8}{k n:Int}{w:List UInt8}(h:numT (x++y)=.ok (k,w,n,x.length))(hl:like y z):numT (x++z)=.ok (k,w,n,x.length):=by
 have key:∀(c:UInt8),hexa c=false→∀ d:List UInt8,(x++y).takeWhile hexa=d→((x++y).drop d.length).take 1=[c]→x.length=d.length+1→x=d++[c]∧(x++z).takeWhile hexa=d∧(x++z).drop d.length=c::z:=by
  intro c hc d hd hr hx
  have hpre:(x++y).take d.length=d:=by rw [← hd];exact tw_prefix _ _
  have hxd:x=d++[c]:=by
   have h1:x=(x++y).take (d.length+1):=by rw [← hx];simp
   rw [h1,List.take_add,hpre,hr]
  have hall:∀ b∈d,hexa b=true:=by rw [← hd];exact tw_all _ _
  refine⟨hxd,?_,?_⟩
  ·rw [hxd,List.append_assoc]
   exact tw_of hexa hall fun b t e=>by simp at e;rw [← e.1];exact hc
  ·rw [hxd,List.append_assoc];simp
 unfold numT at h ⊢
 simp only at h ⊢
 generalize hd:(x++y).takeWhile hexa=d at h
 split at h
 ·rename_i hr
  split at h
  ·rename_i hv
   simp at h
   obtain⟨h1,h2,h3⟩:=key 72 (by decide) d hd hr h.2.2.2.symm
   rw [h2,h3]
   simp [hv,h]
  ·cases h
 ·split at h
  ·rename_i hr
   split at h
   ·rename_i hv
    simp at h
    obtain⟨h1,h2,h3⟩:=key 88 (by decide) d hd hr h.2.2.2.symm
    rw [h2,h3]
    simp [hv,h]
   ·cases h
  ·rename_i n1 n2
   split at h
   ·cases h
   ·rename_i hdd
    split at h
    ·rename_i hv
     simp at h
     have hlen:((x++y).takeWhile hexa).length=x.length:=by rw [hd];exact h.2.2.2
     have hx:=tw_eq hlen
     have hdx:d=x:=hd.symm.trans hx
     subst hdx
     have hall:∀ c∈d,hexa c=true:=by rw [← hd];exact tw_all _ _
     have hz:=tw_of hexa hall (like_no hl (fun c _ h=>h) (tw_stop hx))
     have hry:(d++y).drop d.length=y:=by simp
     have hrz:(d++z).drop d.length=z:=by simp
     rw [hry]at n1 n2 hdd
     rw [hz,hrz]
     have m1:z.take 1 ≠ [72]:=by
      rcases hl with⟨e,_⟩|hb
      ·rw [e];exact n1
      ·exact take1_of_brk hb 72 (by simp)
     have m2:z.take 1 ≠ [88]:=by
      rcases hl with⟨e,_⟩|hb
      ·rw [e];exact n2
      ·exact take1_of_brk hb 88 (by simp)
     have m3:¬((!d.all digit || dots z)=true):=by
      rcases hl with⟨_,e⟩|hb
      ·rw [e];exact hdd
      ·rw [dots_brk hb]
       intro hh
       apply hdd
       simp at hh
       simp [hh]
     rw [if_neg m1,if_neg m2,if_neg m3,if_pos hv]
     simp [h]
    ·cases h
theorem text_cut{x y z:List UInt8}{k n:Int}{w:List UInt8}(h:textT (x++y)=.ok (k,w,n,x.length+1)):textT (x++z)=.ok (k,w,n,x.length+1):=by
 unfold textT at h ⊢
 simp only at h ⊢
 generalize hd:(x++y).takeWhile plain=d at h
 split at h
 ·rename_i hr
  split at h
  ·cases h
  ·rename_i hv
   simp at h
   have hx:x.length=d.length+1:=by omega
   have hpre:(x++y).take d.length=d:=by rw [← hd];exact tw_prefix _ _
   have hxd:x=d++[34]:=by
    have h1:x=(x++y).take (d.length+1):=by rw [← hx];simp
    rw [h1,List.take_add,hpre,hr]
   have hall:∀ b∈d,plain b=true:=by rw [← hd];exact tw_all _ _
   have h2:(x++z).takeWhile plain=d:=by
    rw [hxd,List.append_assoc]
    exact tw_of plain hall fun b t e=>by simp at e;rw [← e.1];decide
   have h3:(x++z).drop d.length=34::z:=by rw [hxd,List.append_assoc];simp
   rw [h2,h3]
   simp [hv]
   exact⟨h.1,h.2.1,h.2.2.1,by omega⟩
 ·cases h
theorem sign_cut{x y z:List UInt8}{k n:Int}{w:List UInt8}(h:signT (x++y)=.ok (k,w,n,x.length))(hl:like y z):signT (x++z)=.ok (k,w,n,x.length):=by
 unfold signT at h
 split at h
 ·rename_i hs
  simp at h
  have hx:x.length=2:=by omega
  match x,hx with
  | [a,b],_ =>
   have hs2:([a,b]++z).take 2∈signs2:=by simpa using hs
   unfold signT
   rw [if_pos hs2]
   simp at h ⊢
   exact h
 ·rename_i hs
  split at h
  ·rename_i c t hct
   split at h
   ·rename_i hc
    simp at h
    have hx:x.length=1:=by omega
    match x,hx with
    | [a],_ =>
     simp at hct
     obtain⟨rfl,rfl⟩:=hct
     unfold signT
     have hn:¬(([a]++z).take 2∈signs2):=by
      have e1:([a]++z).take 2=a::z.take 1:=by simp
      have e2:([a]++y).take 2=a::y.take 1:=by simp
      rw [e1];rw [e2]at hs
      rcases hl with⟨e,_⟩|hb
      ·rw [e];exact hs
      ·intro hm
       rcases hb with rfl|⟨b,u,rfl,hb⟩
       ·simp [signs2]at hm
       ·simp [signs2]at hm
        rcases hb with rfl|rfl|rfl|rfl|rfl <;> simp at hm
     rw [if_neg hn]
     simp only [List.singleton_append,if_pos hc]
     simp only [List.length_singleton,Except.ok.injEq,Prod.mk.injEq]
     exact⟨h.1,h.2.1,h.2.2.1,trivial⟩
   ·cases h
  ·cases h
theorem tok_cut{x y z:List UInt8}{k n:Int}{w:List UInt8}(h:tokF (x++y)=.ok (k,w,n,x.length))(hl:like y z):tokF (x++z)=.ok (k,w,n,x.length):=by
 have hpos:=(tokF_len h).1
 match x,hpos with
 | c::x,_ =>
  unfold tokF at h ⊢
  simp only [List.cons_append]at h ⊢
  split at h
  ·rename_i hc
   rw [if_pos hc]
   exact word_cut (x:=c::x) h hl
  ·rename_i hc
   rw [if_neg hc]
   split at h
   ·rename_i hd
    rw [if_pos hd]
    exact num_cut (x:=c::x) h hl
   ·rename_i hd
    rw [if_neg hd]
    split at h
    ·rename_i hq
     rw [if_pos hq]
     exact text_cut (x:=x) (by simpa using h)
    ·rename_i hq
     rw [if_neg hq]
     exact sign_cut (x:=c::x) h hl
end Tk
namespace Tk
theorem tok_split{l:List UInt8}{k n:Int}{w:List UInt8}{m:Nat}(h:tokF l=.ok (k,w,n,m)):l=l.take m++l.drop m∧(l.take m).length=m:=by
 have:=tokF_len h
 exact⟨(List.take_append_drop m l).symm,by simp;omega⟩
theorem tok_more{l z:List UInt8}{k n:Int}{w:List UInt8}{m:Nat}(h:tokF l=.ok (k,w,n,m))(hl:like (l.drop m) z):tokF (l.take m++z)=.ok (k,w,n,m):=by
 obtain⟨h1,h2⟩:=tok_split h
 have h':tokF (l.take m++l.drop m)=.ok (k,w,n,(l.take m).length):=by rw [← h1,h2];exact h
 have:=tok_cut h' hl
 rw [h2]at this
 exact this
theorem dots_more(y t:List UInt8)(hy:y ≠ [])(h:dots y=false):dots (y++10::t)=dots y:=by
 match y,hy with
 | [a],_ =>
  by_cases ha:a=46
  ·subst ha;simp [dots]at h
  ·have ha':(a == 46)=false:=by simpa using ha
   simp [dots,ha']
 | a::b::u,_=>simp [dots]
theorem num_dots{x y:List UInt8}{k n:Int}{w:List UInt8}{m:Nat}(h:numT x=.ok (k,w,n,m)):True:=trivial
theorem like_line(y t:List UInt8)(h:y=[]∨dots y=false∨2≤y.length):like y (y++10::t):=by
 match y with
 | []=>exact .inr (.inr ⟨10,t,rfl,by simp⟩)
 | [a] =>
  left
  refine⟨by simp,?_⟩
  rcases h with h|h|h
  ·cases h
  ·exact dots_more [a] t (by simp) h
  ·simp at h
 | a::b::u=>exact .inl ⟨by simp,by simp [dots]⟩
theorem takeWhile_line(p:UInt8→Bool)(hp:p 10=false)(l t:List UInt8):(l++10::t).takeWhile p=l.takeWhile p:=by
 induction l with
 | nil=>simp [List.takeWhile_cons,hp]
 | cons a l ih =>
  rw [List.cons_append,List.takeWhile_cons,List.takeWhile_cons,ih]
theorem drop_line(p:UInt8→Bool)(l t:List UInt8):(l++10::t).drop (l.takeWhile p).length=l.drop (l.takeWhile p).length++10::t:=by
 rw [List.drop_append_of_le_length (take_len p l)]
theorem take1_line(y t:List UInt8)(c:UInt8)(hc:c ≠ 10):((y++10::t).take 1=[c]) ↔(y.take 1=[c]):=by
 match y with
 | []=>simp [Ne.symm hc]
 | a::u=>simp
theorem dots_line(y t:List UInt8)(h:dots y=false):dots (y++10::t)=false:=by
 match y with
 | []=>simp [dots]
 | [a]=>rw [dots_more [a] t (by simp) h];exact h
 | a::b::u=>simpa [dots]using h
theorem tok_line{l:List UInt8}(t:List UInt8){k n:Int}{w:List UInt8}{m:Nat}(h:tokF l=.ok (k,w,n,m)):tokF (l++10::t)=.ok (k,w,n,m):=by
 obtain⟨h1,h2⟩:=tok_split h
 have hm:=tokF_len h
 by_cases hd:l.drop m=[]∨dots (l.drop m)=false∨2≤(l.drop m).length
 ·have h3:=tok_more h (like_line (l.drop m) t hd)
  rw [← List.append_assoc,← h1]at h3
  exact h3
 ·have hy:l.drop m=[46]:=by
   have hne:l.drop m ≠ []:=fun e=>hd (.inl e)
   have hdt:dots (l.drop m)=true:=by
    cases hx:dots (l.drop m)
    ·exact absurd (.inr (.inl hx)) hd
    ·rfl
   have hlen:(l.drop m).length<2:=Nat.lt_of_not_le fun e=>hd (.inr (.inr e))
   match hl:l.drop m,hne,hlen with
   | [a],_,_ =>
    rw [hl]at hdt
    simp [dots]at hdt
    rw [hdt]
  -- a number cannot stand before a single dot;all else does not look at it
  have hbrk:like [46] (46::10::t)∨True:=.inr trivial
  match l,h,h1,h2,hm,hy with
  | c::l',h,h1,h2,hm,hy =>
   unfold tokF at h ⊢
   simp only [List.cons_append]at h ⊢
   split at h
   ·rename_i hc
    rw [if_pos hc]
    unfold wordT at h ⊢
    rw [show c::(l'++10::t)=(c::l')++10::t from rfl,takeWhile_line inside (by decide)]
    exact h
   ·rename_i hc
    rw [if_neg hc]
    split at h
    ·rename_i hdg
     rw [if_pos hdg]
     unfold numT at h ⊢
     rw [show c::(l'++10::t)=(c::l')++10::t from rfl,takeWhile_line hexa (by decide)]
     simp only at h ⊢
     rw [drop_line hexa]
     simp only [take1_line _ _ 72 (by decide),take1_line _ _ 88 (by decide)]
     split at h
     ·rename_i hr
      rw [if_pos hr];exact h
     ·rename_i hr
      rw [if_neg hr]
      split at h
      ·rename_i hr2
       rw [if_pos hr2];exact h
      ·rename_i hr2
       rw [if_neg hr2]
       split at h
       ·cases h
       ·rename_i hdd
        rw [if_neg (by
         intro hh
         apply hdd
         simp only [Bool.or_eq_true]at hh ⊢
         rcases hh with hh|hh
         ·exact .inl hh
         ·right
          cases hx:dots ((c::l').drop ((c::l').takeWhile hexa).length)
          ·rw [dots_line _ t hx]at hh;cases hh
          ·rfl)]
        exact h
    ·rename_i hdg
     rw [if_neg hdg]
     split at h
     ·rename_i hq
      rw [if_pos hq]
      unfold textT at h ⊢
      rw [takeWhile_line plain (by decide)]
      simp only at h ⊢
      rw [drop_line plain]
      simp only [take1_line _ _ 34 (by decide)]
      exact h
     ·rename_i hq
      rw [if_neg hq]
      unfold signT at h ⊢
      match l',h with
      | [],h =>
       have hm1:m=1:=by have:=hm.2;simp at this;omega
       subst hm1
       simp at hy
      | b::u,h=>exact h
theorem tok_err{l:List UInt8}(t:List UInt8){e:Int}(h:tokF l=.error e)(he:e ≠ 90):tokF (l++10::t)=.error e:=by
 match l with
 | []=>unfold tokF at h;simp at h;omega
 | c::l' =>
  unfold tokF at h ⊢
  simp only [List.cons_append]at h ⊢
  split at h
  ·rename_i hc
   rw [if_pos hc]
   unfold wordT at h ⊢
   rw [show c::(l'++10::t)=(c::l')++10::t from rfl,takeWhile_line inside (by decide)]
   exact h
  ·rename_i hc
   rw [if_neg hc]
   split at h
   ·rename_i hdg
    rw [if_pos hdg]
    unfold numT at h ⊢
    rw [show c::(l'++10::t)=(c::l')++10::t from rfl,takeWhile_line hexa (by decide)]
    simp only at h ⊢
    rw [drop_line hexa]
    simp only [take1_line _ _ 72 (by decide),take1_line _ _ 88 (by decide)]
    split at h
    ·rename_i hr
     rw [if_pos hr];exact h
    ·rename_i hr
     rw [if_neg hr]
     split at h
     ·rename_i hr2
      rw [if_pos hr2];exact h
     ·rename_i hr2
      rw [if_neg hr2]
      split at h
      ·simp at h;omega
      ·rename_i hdd
       rw [if_neg (by
        intro hh
        apply hdd
        simp only [Bool.or_eq_true]at hh ⊢
        rcases hh with hh|hh
        ·exact .inl hh
        ·right
         cases hx:dots ((c::l').drop ((c::l').takeWhile hexa).length)
         ·rw [dots_line _ t hx]at hh;cases hh
         ·rfl)]
       exact h
   ·rename_i hdg
    rw [if_neg hdg]
    split at h
    ·rename_i hq
     rw [if_pos hq]
     unfold textT at h ⊢
     rw [takeWhile_line plain (by decide)]
     simp only at h ⊢
     rw [drop_line plain]
     simp only [take1_line _ _ 34 (by decide)]
     split at h
     ·rename_i hr
      rw [if_pos hr];exact h
     ·simp at h;omega
    ·unfold signT at h
     split at h
     ·cases h
     ·simp only at h
      split at h
      ·cases h
      ·simp at h;omega
theorem cmt_more(l:List UInt8)(d:Int)(n:Nat)(z:List UInt8)(h:cmt l d=some n):cmt (l++z) d=some n:=by
 induction l,d using cmt.induct generalizing n with
 | case1=>simp [cmt]at h
 | case2=>simp [cmt]at h
 | case3 d a b t hab ih =>
  simp only [cmt,hab,if_true,and_self]at h
  obtain⟨m,hm,rfl⟩:=Option.map_eq_some_iff.1 h
  simp only [List.cons_append,cmt,hab,if_true,and_self,ih m hm]
  rfl
 | case4 a b t hab hab2 =>
  simp only [cmt,if_neg hab,if_pos hab2,if_true]at h
  simp only [List.cons_append,cmt,if_neg hab,if_pos hab2,if_true]
  exact h
 | case5 d a b t hab hab2 hd ih =>
  simp only [cmt,if_neg hab,if_pos hab2,if_neg hd]at h
  obtain⟨m,hm,rfl⟩:=Option.map_eq_some_iff.1 h
  simp only [List.cons_append,cmt,if_neg hab,if_pos hab2,if_neg hd,ih m hm]
  rfl
 | case6 d a b t hab hab2 ih =>
  simp only [cmt,if_neg hab,if_neg hab2]at h
  obtain⟨m,hm,rfl⟩:=Option.map_eq_some_iff.1 h
  have:=ih m hm
  simp only [List.cons_append]at this
  simp only [List.cons_append,cmt,if_neg hab,if_neg hab2,this]
  rfl
theorem lexF_nil(p k:Nat):lexF [] p k=.ok []:=by rw [lexF]
theorem lexF_blank{c:UInt8}{t:List UInt8}(p k:Nat)(h:blank c=true):lexF (c::t) p k=lexF t (p+1) k:=by
 rw [lexF,if_pos h]
theorem lexF_cmt{c:UInt8}{t:List UInt8}(p k:Nat)(h:blank c=false)(ho:opens (c::t)=true){n:Nat}(hc:cmt (c::t) 0=some n):lexF (c::t) p k=lexF ((c::t).drop n) (p+n) k:=by
 rw [lexF,if_neg (by simp [h]),if_pos ho]
 split
 ·rename_i h2;rw [hc]at h2;cases h2
 ·rename_i m h2;rw [hc]at h2;simp at h2;rw [h2]
theorem lexF_cmt_none{c:UInt8}{t:List UInt8}(p k:Nat)(h:blank c=false)(ho:opens (c::t)=true)(hc:cmt (c::t) 0=none):lexF (c::t) p k=.error (p,90):=by
 rw [lexF,if_neg (by simp [h]),if_pos ho]
 split
 ·rfl
 ·rename_i m h2;rw [hc]at h2;cases h2
theorem lexF_err{c:UInt8}{t:List UInt8}(p k:Nat)(h:blank c=false)(ho:opens (c::t)=false){e:Int}(ht:tokF (c::t)=.error e):lexF (c::t) p k=.error (p,e):=by
 rw [lexF,if_neg (by simp [h]),if_neg (by simp [ho])]
 split
 ·rename_i e' h2;rw [ht]at h2;simp at h2;rw [h2]
 ·rename_i h2;rw [ht]at h2;cases h2
theorem lexF_tok{c:UInt8}{t:List UInt8}(p k:Nat)(h:blank c=false)(ho:opens (c::t)=false){kd n:Int}{w:List UInt8}{m:Nat}(ht:tokF (c::t)=.ok (kd,w,n,m)) :
  lexF (c::t) p k=if k=6000 then .error (p,3)else match lexF ((c::t).drop m) (p+m) (k+1)with | .error e => .error e | .ok r => .ok ((kd,w,n,(p:Int))::r):=by
 rw [lexF,if_neg (by simp [h]),if_neg (by simp [ho])]
 split
 ·rename_i e' h2;rw [ht]at h2;cases h2
 ·rename_i h2;rw [ht]at h2;simp at h2;obtain⟨rfl,rfl,rfl,rfl⟩:=h2;rfl
theorem opens_line(c:UInt8)(t z:List UInt8):opens (c::t++10::z)=opens (c::t):=by
 match t with
 | [] =>
  have h1:([c,10] == [40,42])=false:=by simp
  have h2:([c] == ([40,42]:List UInt8))=false:=by simp
  simp [opens,h1,h2]
 | a::u=>simp [opens]
theorem lex_line(t:List UInt8)(l:List UInt8)(p k:Nat)(r:List Tok)(h:lexF l p k=.ok r) :
  lexF (l++10::t) p k=match lexF t (p+l.length+1) (k+r.length)with | .error e => .error e | .ok q => .ok (r++q):=by
 induction hn:l.length using Nat.strongRecOn generalizing l p k r with
 | _ N ih =>
  match l,hn with
  | [],hn =>
   rw [lexF_nil]at h
   simp at h
   subst h
   rw [List.nil_append,lexF_blank p k (by decide)]
   simp at hn
   subst hn
   simp only [List.length_nil,Nat.add_zero,List.nil_append]
   split <;> rename_i h2 <;> rw [h2]
  | c::u,hn =>
   cases hb:blank c
   ·cases ho:opens (c::u)
    ·cases ht:tokF (c::u)with
     | error e=>rw [lexF_err p k hb ho ht]at h;cases h
     | ok v =>
      obtain⟨kd,w,n,m⟩:=v
      have hm:=tokF_len ht
      rw [lexF_tok p k hb ho ht]at h
      have ht2:=tok_line t ht
      rw [List.cons_append]at ht2 ⊢
      rw [lexF_tok p k hb (by rw [← List.cons_append,opens_line];exact ho) ht2]
      split at h
      ·cases h
      ·rename_i hk
       rw [if_neg hk]
       rw [← List.cons_append,List.drop_append_of_le_length hm.2]
       split at h
       ·cases h
       ·rename_i r' hr'
        simp at h
        subst h
        have:=ih ((c::u).drop m).length (by rw [List.length_drop];omega) _ _ _ _ hr' rfl
        rw [this]
        have e1:p+m+((c::u).drop m).length+1=p+N+1:=by rw [List.length_drop];omega
        have e2:k+1+r'.length=k+(r'.length+1):=by omega
        rw [e1,e2]
        simp only [List.length_cons]
        cases lexF t (p+N+1) (k+(r'.length+1)) <;> rfl
    ·cases hc:cmt (c::u) 0 with
     | none=>rw [lexF_cmt_none p k hb ho hc]at h;cases h
     | some n =>
      have hm:=cmt_len _ _ _ hc
      rw [lexF_cmt p k hb ho hc]at h
      have hc2:=cmt_more _ _ _ (10::t) hc
      have ho2:opens (c::u++10::t)=true:=by rw [opens_line];exact ho
      rw [List.cons_append]at hc2 ho2 ⊢
      rw [lexF_cmt p k hb ho2 hc2,← List.cons_append,List.drop_append_of_le_length hm.2]
      have:=ih ((c::u).drop n).length (by rw [List.length_drop];omega) _ _ _ _ h rfl
      rw [this]
      have e1:p+n+((c::u).drop n).length+1=p+N+1:=by rw [List.length_drop];omega
      rw [e1]
   ·rw [lexF_blank p k hb]at h
    rw [List.cons_append,lexF_blank p k hb]
    simp at hn
    have:=ih u.length (by omega) _ _ _ _ h rfl
    rw [this]
    have e1:p+1+u.length+1=p+N+1:=by omega
    rw [e1]
theorem lex_line_err(t:List UInt8)(l:List UInt8)(p k:Nat)(q:Nat)(e:Int)(h:lexF l p k=.error (q,e))(he:e ≠ 90):lexF (l++10::t) p k=.error (q,e):=by
 induction hn:l.length using Nat.strongRecOn generalizing l p k with
 | _ N ih =>
  match l,hn with
  | [],hn=>rw [lexF_nil]at h;cases h
  | c::u,hn =>
   cases hb:blank c
   ·cases ho:opens (c::u)
    ·have ho2:opens (c::(u++10::t))=false:=by rw [← List.cons_append,opens_line];exact ho
     cases ht:tokF (c::u)with
     | error e' =>
      rw [lexF_err p k hb ho ht]at h
      simp at h
      obtain⟨rfl,rfl⟩:=h
      have ht2:=tok_err t ht he
      rw [List.cons_append]at ht2 ⊢
      rw [lexF_err _ k hb ho2 ht2]
     | ok v =>
      obtain⟨kd,w,n,m⟩:=v
      have hm:=tokF_len ht
      rw [lexF_tok p k hb ho ht]at h
      have ht2:=tok_line t ht
      rw [List.cons_append]at ht2 ⊢
      rw [lexF_tok p k hb ho2 ht2]
      split at h
      ·rename_i hk
       rw [if_pos hk];exact h
      ·rename_i hk
       rw [if_neg hk]
       rw [← List.cons_append,List.drop_append_of_le_length hm.2]
       split at h
       ·rename_i e' hr'
        simp at h
        subst h
        have:=ih ((c::u).drop m).length (by rw [List.length_drop];omega) _ _ _ hr' rfl
        rw [this]
       ·cases h
    ·cases hc:cmt (c::u) 0 with
     | none=>rw [lexF_cmt_none p k hb ho hc]at h;simp at h;omega
     | some n =>
      have hm:=cmt_len _ _ _ hc
      rw [lexF_cmt p k hb ho hc]at h
      have hc2:=cmt_more _ _ _ (10::t) hc
      have ho2:opens (c::u++10::t)=true:=by rw [opens_line];exact ho
      rw [List.cons_append]at hc2 ho2 ⊢
      rw [lexF_cmt p k hb ho2 hc2,← List.cons_append,List.drop_append_of_le_length hm.2]
      exact ih ((c::u).drop n).length (by rw [List.length_drop];omega) _ _ _ h rfl
   ·rw [lexF_blank p k hb]at h
    rw [List.cons_append,lexF_blank p k hb]
    simp at hn
    exact ih u.length (by omega) _ _ _ h rfl
end Tk
namespace Tk
def word(w:List UInt8):Bool:=decide (w.length≤24) && w.all inside && (match w with|[]=>false|c::_=>letter c)
def sign(w:List UInt8):Prop:=w∈signs2∨∃ c,w=[c]∧c∈signs1
def Good(kd:Int)(w:List UInt8)(n:Int):Prop:=
 (kd=1∧n=0∧word w=true∧w ∉ keys)∨(kd=2∧n=0∧w∈keys)∨(kd=3∧w=[] ∧ -2147483648≤n∧n<2147483648)∨(kd=4∧w=[]∧0≤n∧n<256) ∨
 (kd=5∧n=0∧w.length≤64∧∀ c∈w,plain c=true)∨(kd=6∧n=0∧sign w)
def Spelt(s:List UInt8)(kd:Int)(w:List UInt8)(n:Int):Prop:=s ≠ []∧s.length≤66∧opens s=false∧tokF s=.ok (kd,w,n,s.length)
theorem keys_word:∀ w∈keys,w.all inside=true∧(∃ c t,w=c::t∧letter c=true)∧w.length≤24:=by
 have:keys.all (fun w=>w.all inside && (match w with|[]=>false|c::_=>letter c) && decide (w.length≤24))=true:=by decide +kernel
 intro w hw
 have:=List.all_eq_true.1 this w hw
 simp only [Bool.and_eq_true,decide_eq_true_eq]at this
 obtain⟨⟨h1,h2⟩,h3⟩:=this
 refine⟨h1,?_,h3⟩
 match w,h2 with
 | c::t,h2=>exact⟨c,t,rfl,h2⟩
theorem opens_letter{c:UInt8}(t:List UInt8)(h:letter c=true∨digit c=true∨c=34):opens (c::t)=false:=by
 have hc:c ≠ 40:=by
  rintro rfl
  rcases h with h|h|h <;> revert h <;> decide
 match t with
 | [] =>
  have:([c] == ([40,42]:List UInt8))=false:=by simp
  simp [opens,this]
 | a::u=>simp [opens,hc]
theorem tok_word{c:UInt8}{t:List UInt8}(h:letter c=true):tokF (c::t)=wordT (c::t):=by
 unfold tokF;simp only;rw [if_pos h]
theorem word_kind{l:List UInt8}{kd n:Int}{w:List UInt8}{m:Nat}(h:wordT l=.ok (kd,w,n,m)):n=0∧w=l.takeWhile inside∧m=w.length∧((kd=2∧w∈keys)∨(kd=1∧w ∉ keys∧w.length≤24)):=by
 unfold wordT at h
 simp only at h
 split at h
 ·rename_i hk
  simp at h
  obtain⟨rfl,rfl,rfl,rfl⟩:=h
  exact⟨rfl,rfl,rfl,.inl ⟨rfl,hk⟩⟩
 ·rename_i hk
  split at h
  ·cases h
  ·simp at h
   obtain⟨rfl,rfl,rfl,rfl⟩:=h
   exact⟨rfl,rfl,rfl,.inr ⟨rfl,hk,by omega⟩⟩
theorem num_kind{l:List UInt8}{kd n:Int}{w:List UInt8}{m:Nat}(h:numT l=.ok (kd,w,n,m)):(kd=3∨kd=4)∧w=[]:=by
 unfold numT at h
 simp only at h
 split at h
 ·split at h
  ·simp at h;exact⟨.inl h.1.symm,h.2.1⟩
  ·cases h
 ·split at h
  ·split at h
   ·simp at h;exact⟨.inr h.1.symm,h.2.1⟩
   ·cases h
  ·split at h
   ·cases h
   ·split at h
    ·simp at h;exact⟨.inl h.1.symm,h.2.1⟩
    ·cases h
theorem text_kind{l:List UInt8}{kd n:Int}{w:List UInt8}{m:Nat}(h:textT l=.ok (kd,w,n,m)):kd=5∧n=0∧w=l.takeWhile plain∧m=w.length+2∧w.length≤64:=by
 unfold textT at h
 simp only at h
 split at h
 ·split at h
  ·cases h
  ·simp at h
   obtain⟨rfl,rfl,rfl,rfl⟩:=h
   exact⟨rfl,rfl,rfl,rfl,by omega⟩
 ·cases h
theorem sign_kind{l:List UInt8}{kd n:Int}{w:List UInt8}{m:Nat}(h:signT l=.ok (kd,w,n,m)):kd=6∧n=0∧sign w:=by
 unfold signT at h
 split at h
 ·rename_i hs
  simp at h
  obtain⟨rfl,rfl,rfl,rfl⟩:=h
  exact⟨rfl,rfl,.inl hs⟩
 ·split at h
  ·rename_i c t hct
   split at h
   ·rename_i hc
    simp at h
    obtain⟨rfl,rfl,rfl,rfl⟩:=h
    exact⟨rfl,rfl,.inr ⟨c,rfl,hc⟩⟩
   ·cases h
  ·cases h
end Tk
namespace Tk
def shiftR(d:Nat)(R:Except (Nat × Int) (List Tok)):Except (Nat × Int) (List Tok):=
 match R with
 | .ok r => .ok (r.map fun t=>(t.1,t.2.1,t.2.2.1,t.2.2.2+(d:Int)))
 | .error (q,e) => .error (q+d,e)
theorem lex_shift(d:Nat)(l:List UInt8)(p k kk:Nat)(h1:k+l.length≤6000)(h2:kk+l.length≤6000):lexF l (p+d) kk=shiftR d (lexF l p k):=by
 induction hn:l.length using Nat.strongRecOn generalizing l p k kk with
 | _ N ih =>
  match l,hn with
  | [],hn=>rw [lexF_nil,lexF_nil];rfl
  | c::t,hn =>
   have hl:(c::t).length=t.length+1:=rfl
   cases hb:blank c
   ·cases ho:opens (c::t)
    ·cases ht:tokF (c::t)with
     | error e=>rw [lexF_err _ _ hb ho ht,lexF_err _ _ hb ho ht];rfl
     | ok v =>
      obtain⟨kd,w,n,m⟩:=v
      have hm:=tokF_len ht
      rw [lexF_tok _ _ hb ho ht,lexF_tok _ _ hb ho ht,if_neg (by omega),if_neg (by omega)]
      have hd:((c::t).drop m).length=(c::t).length - m:=List.length_drop ..
      have:=ih _ (by rw [hd];omega) ((c::t).drop m) (p+m) (k+1) (kk+1) (by omega) (by omega) rfl
      rw [show p+d+m=p+m+d by omega,this]
      cases lexF ((c::t).drop m) (p+m) (k+1)with
      | error e=>rfl
      | ok r=>simp [shiftR]
    ·cases hc:cmt (c::t) 0 with
     | none=>rw [lexF_cmt_none _ _ hb ho hc,lexF_cmt_none _ _ hb ho hc];rfl
     | some m =>
      have hm:=cmt_len _ _ _ hc
      rw [lexF_cmt _ _ hb ho hc,lexF_cmt _ _ hb ho hc]
      have hd:((c::t).drop m).length=(c::t).length - m:=List.length_drop ..
      have:=ih _ (by rw [hd];omega) ((c::t).drop m) (p+m) k kk (by omega) (by omega) rfl
      rw [show p+d+m=p+m+d by omega,this]
   ·rw [lexF_blank _ _ hb,lexF_blank _ _ hb]
    have:=ih t.length (by omega) t (p+1) k kk (by omega) (by omega) rfl
    rw [show p+d+1=p+1+d by omega,this]
theorem tokF_errs{l:List UInt8}{c:Int}(h:tokF l=.error c):c ≠ 0:=by
 intro h0
 subst h0
 unfold tokF at h
 split at h
 ·injection h with h;omega
 ·split at h
  ·unfold wordT at h;simp only at h
   split at h
   ·cases h
   ·split at h
    ·injection h with h;omega
    ·cases h
  ·split at h
   ·unfold numT at h;simp only at h
    split at h
    ·split at h
     ·cases h
     ·injection h with h;omega
    ·split at h
     ·split at h
      ·cases h
      ·injection h with h;omega
     ·split at h
      ·injection h with h;omega
      ·split at h
       ·cases h
       ·injection h with h;omega
   ·split at h
    ·unfold textT at h;simp only at h
     split at h
     ·split at h
      ·injection h with h;omega
      ·cases h
     ·injection h with h;omega
    ·unfold signT at h
     split at h
     ·cases h
     ·split at h
      ·split at h
       ·cases h
       ·injection h with h;omega
      ·injection h with h;omega
theorem lex_err_at(l:List UInt8)(p k q:Nat)(e:Int)(h:lexF l p k=.error (q,e)):p≤q∧q<p+l.length∧e ≠ 0:=by
 induction hn:l.length using Nat.strongRecOn generalizing l p k with
 | _ N ih =>
  match l,hn with
  | [],hn=>rw [lexF_nil]at h;cases h
  | c::t,hn =>
   have hl:(c::t).length=t.length+1:=rfl
   cases hb:blank c
   ·cases ho:opens (c::t)
    ·cases ht:tokF (c::t)with
     | error e' =>
      rw [lexF_err _ _ hb ho ht]at h
      simp only [Except.error.injEq,Prod.mk.injEq]at h
      obtain⟨rfl,rfl⟩:=h
      exact⟨by omega,by omega,tokF_errs ht⟩
     | ok v =>
      obtain⟨kd,w,n,m⟩:=v
      have hm:=tokF_len ht
      rw [lexF_tok _ _ hb ho ht]at h
      split at h
      ·simp only [Except.error.injEq,Prod.mk.injEq]at h
       obtain⟨rfl,rfl⟩:=h
       exact⟨by omega,by omega,by decide⟩
      ·have hd:((c::t).drop m).length=(c::t).length - m:=List.length_drop ..
       cases hr:lexF ((c::t).drop m) (p+m) (k+1)with
       | error e' =>
        rw [hr]at h
        simp only [Except.error.injEq]at h
        subst h
        have:=ih _ (by rw [hd];omega) ((c::t).drop m) (p+m) (k+1) hr rfl
        rw [hd]at this
        exact⟨by omega,by omega,this.2.2⟩
       | ok r=>rw [hr]at h;cases h
    ·cases hc:cmt (c::t) 0 with
     | none =>
      rw [lexF_cmt_none _ _ hb ho hc]at h
      simp only [Except.error.injEq,Prod.mk.injEq]at h
      obtain⟨rfl,rfl⟩:=h
      exact⟨by omega,by omega,by decide⟩
     | some m =>
      have hm:=cmt_len _ _ _ hc
      rw [lexF_cmt _ _ hb ho hc]at h
      have hd:((c::t).drop m).length=(c::t).length - m:=List.length_drop ..
      have:=ih _ (by rw [hd];omega) ((c::t).drop m) (p+m) k h rfl
      rw [hd]at this
      exact⟨by omega,by omega,this.2.2⟩
   ·rw [lexF_blank _ _ hb]at h
    have:=ih t.length (by omega) t (p+1) k h rfl
    exact⟨by omega,by omega,this.2.2⟩
theorem lex_ats(l:List UInt8)(p k:Nat)(r:List Tok)(h:lexF l p k=.ok r):(r.map fun t=>t.2.2.2.toNat).Pairwise (·≤·)∧(∀ t∈r,0≤t.2.2.2∧p≤t.2.2.2.toNat∧t.2.2.2.toNat<p+l.length)∧r.length≤l.length:=by
 induction hn:l.length using Nat.strongRecOn generalizing l p k r with
 | _ N ih =>
  match l,hn with
  | [],hn=>rw [lexF_nil]at h;simp at h;subst h;simp
  | c::t,hn =>
   have hl:(c::t).length=t.length+1:=rfl
   cases hb:blank c
   ·cases ho:opens (c::t)
    ·cases ht:tokF (c::t)with
     | error e'=>rw [lexF_err _ _ hb ho ht]at h;cases h
     | ok v =>
      obtain⟨kd,w,n,m⟩:=v
      have hm:=tokF_len ht
      rw [lexF_tok _ _ hb ho ht]at h
      split at h
      ·cases h
      ·have hd:((c::t).drop m).length=(c::t).length - m:=List.length_drop ..
       cases hr:lexF ((c::t).drop m) (p+m) (k+1)with
       | error e'=>rw [hr]at h;cases h
       | ok r' =>
        rw [hr]at h
        simp only [Except.ok.injEq]at h
        subst h
        obtain⟨i1,i2,i3⟩:=ih _ (by rw [hd];omega) ((c::t).drop m) (p+m) (k+1) r' hr rfl
        rw [hd]at i2 i3
        refine⟨?_,?_,by simp;omega⟩
        ·rw [List.map_cons,List.pairwise_cons]
         refine⟨fun a ha=>?_,i1⟩
         obtain⟨x,hx,rfl⟩:=List.mem_map.1 ha
         have:=i2 x hx
         simp;omega
        ·intro x hx
         rcases List.mem_cons.1 hx with rfl|hx
         ·simp;omega
         ·have:=i2 x hx;omega
    ·cases hc:cmt (c::t) 0 with
     | none=>rw [lexF_cmt_none _ _ hb ho hc]at h;cases h
     | some m =>
      have hm:=cmt_len _ _ _ hc
      rw [lexF_cmt _ _ hb ho hc]at h
      have hd:((c::t).drop m).length=(c::t).length - m:=List.length_drop ..
      obtain⟨i1,i2,i3⟩:=ih _ (by rw [hd];omega) ((c::t).drop m) (p+m) k r h rfl
      rw [hd]at i2 i3
      exact⟨i1,fun x hx=>by have:=i2 x hx;omega,by omega⟩
   ·rw [lexF_blank _ _ hb]at h
    obtain⟨i1,i2,i3⟩:=ih t.length (by omega) t (p+1) k r h rfl
    exact⟨i1,fun x hx=>by have:=i2 x hx;omega,by omega⟩
end Tk
namespace Tk
def lexM:Nat→List UInt8→Nat→Nat→Except (Nat × Int) (List Tok)
 | 0,_,_,_ => .error (0,999)
 | _+1,[],_,_ => .ok []
 | f+1,c::t,p,k =>
  if blank c=true then lexM f t (p+1) k
  else if opens (c::t)=true then(match cmt (c::t) 0 with|none => .error (p,90)|some m=>lexM f ((c::t).drop m) (p+m) k)
  else match tokF (c::t)with
   | .error e => .error (p,e)
   | .ok (kd,w,n,m)=>if k=6000 then .error (p,3)else match lexM f ((c::t).drop m) (p+m) (k+1)with | .error e => .error e | .ok r => .ok ((kd,w,n,(p:Int))::r)
theorem lexM_eq(f:Nat):∀(l:List UInt8) (p k:Nat),l.length<f→lexM f l p k=lexF l p k:=by
 induction f with
 | zero=>intro l p k h;omega
 | succ f ih =>
  intro l p k h
  match l with
  | []=>rw [lexM,lexF_nil]
  | c::t =>
   rw [lexM]
   by_cases hb:blank c=true
   ·rw [if_pos hb,lexF_blank p k hb,ih t (p+1) k (by simp at h;omega)]
   ·rw [if_neg hb]
    have hb':blank c=false:=by simpa using hb
    by_cases ho:opens (c::t)=true
    ·rw [if_pos ho]
     cases hc:cmt (c::t) 0 with
     | none=>rw [lexF_cmt_none p k hb' ho hc]
     | some m =>
      have hm:=cmt_len _ _ _ hc
      rw [lexF_cmt p k hb' ho hc]
      exact ih _ _ _ (by simp at h hm ⊢ <;> omega)
    ·rw [if_neg ho]
     have ho':opens (c::t)=false:=by simpa using ho
     cases ht:tokF (c::t)with
     | error e=>rw [lexF_err p k hb' ho' ht]
     | ok v =>
      obtain⟨kd,w,n,m⟩:=v
      have hm:=tokF_len ht
      rw [lexF_tok p k hb' ho' ht]
      simp only
      rw [ih _ _ _ (by simp at h hm ⊢ <;> omega)]
      all_goals
       by_cases h6:k=6000
       ·rw [if_pos h6,if_pos h6]
       ·rw [if_neg h6,if_neg h6]
        cases lexF (List.drop m (c::t)) (p+m) (k+1) <;> rfl
end Tk
end Go.Proofs.YthkegfdijohpaaaGreatDoor
