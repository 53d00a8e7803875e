/- The walk of token's token. Conditions: the text is not empty;the lexer's record lies in the world;the library's variables are as they were laid. -/
import Derived.Test.YtlhmkfcbldghfaaGreatDoorTokK
import Derived.Test.YtlhmkfcbldghfaaGreatDoorTkC
import Derived.Test.YtlhmkfcbldghfaaGreatDoorMoreX
import Derived.Test.YtlhmkfcbldghfaaGreatDoorTkA
import Derived.Test.YtlhmkfcbldghfaaGreatDoorTkB
import Derived.Test.YtlhmkfcbldghfaaGreatDoorAppendW
namespace Go.Proofs.YtlhmkfcbldghfaaGreatDoor
set_option linter.all false
open Go.Lib (hid)
set_option maxRecDepth 1000000
set_option maxHeartbeats 16000000
open Go.RowKit
namespace Tk
theorem tokF_at(s:ByteArray)(h:0<s.size):tokF s.data.toList=if letter s[0]=true then wordT s.data.toList else if digit s[0]=true then numT s.data.toList else if s[0]=34 then textT (s.data.toList.drop 1)else signT s.data.toList:=by
 have h0:=drop_at s 0 h
 simp only [List.drop_zero,Nat.zero_add]at h0
 rw [h0]
 simp only [tokF,List.drop_succ_cons,List.drop_zero]
theorem wres_ret(s:ByteArray)(n:Nat)(hT:(s.data.toList.takeWhile inside).length=n):TokRet (wordT s.data.toList) 0 0 (.returned (.tuple #[tv (wres (s.extract 0 n)).1 (wres (s.extract 0 n)).2.1 0 0,.int .i64 (n:Int),.int .i64 (wres (s.extract 0 n)).2.2])):=by
 have hw:=wordT_at s (i:=0) (k:=n) (by simpa using hT)
 simp only [List.drop_zero,Nat.sub_zero]at hw
 rw [hw]
 have hn2:n≤s.size:=by have:=take_len inside s.data.toList;simp at this;omega
 have hz:=extract_size s n hn2
 unfold wres
 rw [hz]
 by_cases hk:(s.extract 0 n).data.toList∈keys
 ·rw [if_pos hk,if_pos hk];exact⟨_,rfl,rfl⟩
 ·rw [if_neg hk,if_neg hk]
  by_cases hl:24<n
  ·rw [if_pos hl,if_pos hl];exact⟨_,_,_,_,_,rfl⟩
  ·rw [if_neg hl,if_neg hl];exact⟨_,rfl,rfl⟩
theorem ret_form{R:Tk.R}{a:Int}{off:Nat}{e:Ending}(h:TokRet R a off e):∃ f t n a' m c,e=.returned (.tuple #[.agg #[.int .i64 f,.string t,.int .i64 n,.int .i64 a'],.int .i64 m,.int .i64 c]):=by
 unfold TokRet at h
 split at h
 ·obtain⟨t,_,rfl⟩:=h;exact⟨_,_,_,_,_,_,rfl⟩
 ·obtain⟨f,t,n,a',m,rfl⟩:=h;exact⟨_,_,_,_,_,_,rfl⟩
end Tk
theorem token_word(s:ByteArray)(x b1 b2 b3 b4 m:Nat)(w:World)(hs:s.size<4294967281)(hL:Tk.Lx w x b1 b2 b3 b4 m)(h1:0<s.size)(hc:Tk.letter s[0]=true) :
  Calls Tryz.prog 56 #[.pointer (some ⟨x,0,none⟩),.string s] w fun e w'=>Tk.TokRet (Tk.wordT s.data.toList) 0 0 e∧∃ g,w'=more w g:=by
 have h256:s[0].toNat<256:=UInt8.toNat_lt _
 have x0:=hL.x0
 have c1:=hL.c1
 have c2:=hL.c2
 have t1:=hL.t1.2 s[0]
 have tb:=hL.t1.1
 rw [hc]at t1
 obtain⟨n,hT⟩:∃ n,(s.data.toList.takeWhile Tk.inside).length=n:=⟨_,rfl⟩
 have hn2:n≤s.size:=by have:=Tk.take_len Tk.inside s.data.toList;simp at this;omega
 have HT:=hid (fun W=>run_at (w:=W) (b:=b2) hT hs)
 have HT2:=hid hL.t2
 have HL:=hid hL
 have HR:=hid (Tk.wres_ret s n hT)
 have hDs:=Tk.extract_size s n hn2
 generalize hD:s.extract 0 n=D at *
 obtain⟨u,hu⟩:∃ u,Tk.wres D=u:=⟨_,rfl⟩
 have HW:=hid (fun W (hL:Tk.Lx W x b1 b2 b3 b4 m)=>word_any D x b1 b2 b3 b4 m W (by omega) hL)
 rw [hu]at HW HR
 obtain⟨f,t,c⟩:=u
 simp only [Tk.tv]at HW
 clear hL hc hT hu
 go_enter Tryz.func56,Tryz.ntmps56
 go_wp2_with (first|(go_at_call 92;(with_reducible refine(HT.out _ ?_).mono ?_);(focus(exact HT2.out.keep (B:=w.heap.size) bT HT2.out.1));rintro e w' ⟨rfl,g,rfl⟩)|(go_at_call 93;(with_reducible refine(HW.out _ ?_).mono ?_);(focus(exact HL.out.below bT));rintro e w' ⟨rfl,g,rfl⟩))
 go_returns
 exact⟨HR.out,more_of_below bT⟩
theorem token_number(s:ByteArray)(x b1 b2 b3 b4 m:Nat)(w:World)(hs:s.size<4294967281)(hL:Tk.Lx w x b1 b2 b3 b4 m)(hg:Gs w)(h1:0<s.size)(hc:Tk.letter s[0]=false)(hd:Tk.digit s[0]=true) :
  Calls Tryz.prog 56 #[.pointer (some ⟨x,0,none⟩),.string s] w fun e w'=>Tk.TokRet (Tk.numT s.data.toList) 0 0 e∧∃ g,w'=more w g:=by
 have h256:s[0].toNat<256:=UInt8.toNat_lt _
 have x0:=hL.x0
 have c1:=hL.c1
 have c3:=hL.c3
 have t1:=hL.t1.2 s[0]
 have tb:=hL.t1.1
 have t3:=hL.t3.2 s[0]
 have tb3:=hL.t3.1
 rw [hc]at t1
 rw [hd]at t3
 have HW:=hid (fun W (hL:Tk.Lx W x b1 b2 b3 b4 m) (hg:Gs W)=>number_any s x b1 b2 b3 b4 m W hs hL hg _ rfl h1 hd)
 have HL:=hid hL
 have HG:=hid hg
 clear hL hc hd hg
 go_enter Tryz.func56,Tryz.ntmps56
 go_wp2_with (go_at_call 94;(with_reducible refine(HW.out _ ?_ ?_).mono ?_);(focus(exact HL.out.below bT));(focus(exact HG.out.below bT));rintro e w' ⟨hret,g,rfl⟩;obtain⟨f,t,n,a',m,c,rfl⟩:=Tk.ret_form hret)
 go_returns
 exact⟨hret,more_of_below bT⟩
theorem token_text(s:ByteArray)(x b1 b2 b3 b4 m:Nat)(w:World)(hs:s.size<4294967281)(hL:Tk.Lx w x b1 b2 b3 b4 m)(h1:0<s.size)(hc:Tk.letter s[0]=false)(hd:Tk.digit s[0]=false)(hq:s[0]=34) :
  Calls Tryz.prog 56 #[.pointer (some ⟨x,0,none⟩),.string s] w fun e w'=>Tk.TokRet (Tk.textT (s.data.toList.drop 1)) 0 0 e∧∃ g,w'=more w g:=by
 have h256:s[0].toNat<256:=UInt8.toNat_lt _
 have x0:=hL.x0
 have c1:=hL.c1
 have c3:=hL.c3
 have t1:=hL.t1.2 s[0]
 have tb:=hL.t1.1
 have t3:=hL.t3.2 s[0]
 have tb3:=hL.t3.1
 rw [hc]at t1
 rw [hd]at t3
 have HW:=hid (fun W=>text_any s W hs h1 _ rfl)
 have e34:((s[0].toNat:Int) == 34)=true:=by rw [hq];rfl
 clear hL hc hd hq
 go_enter Tryz.func56,Tryz.ntmps56
 go_wp2_with (go_at_call 95;(with_reducible refine(HW.out _).mono ?_);rintro e w' ⟨hret,g,rfl⟩;obtain⟨f,t,n,a',m,c,rfl⟩:=Tk.ret_form hret)
 go_returns
 exact⟨hret,more_of_below bT⟩
theorem token_sign(s:ByteArray)(x b1 b2 b3 b4 m:Nat)(w:World)(hs:s.size<4294967281)(hL:Tk.Lx w x b1 b2 b3 b4 m)(hg:Gs w)(h1:0<s.size)(hc:Tk.letter s[0]=false)(hd:Tk.digit s[0]=false)(hq:¬ s[0]=34)(R:Tk.R)(hR:Tk.signT s.data.toList=R) :
  Calls Tryz.prog 56 #[.pointer (some ⟨x,0,none⟩),.string s] w fun e w'=>Tk.TokRet R 0 0 e∧∃ g,w'=more w g:=by
 have h256:s[0].toNat<256:=UInt8.toNat_lt _
 have x0:=hL.x0
 have c1:=hL.c1
 have c3:=hL.c3
 have t1:=hL.t1.2 s[0]
 have tb:=hL.t1.1
 have t3:=hL.t3.2 s[0]
 have tb3:=hL.t3.1
 rw [hc]at t1
 rw [hd]at t3
 have hq':¬ s[0].toNat=34:=fun h=>hq (by rw [← UInt8.toNat_inj];exact h)
 have e34:((s[0].toNat:Int) == 34)=false:=by simp;omega
 have HG:=hid hg
 have HV:=hid (hR.symm.trans (Tk.sign_find s.data.toList))
 have hlen:=Tk.sgs_len
 clear hL hc hd hq hg hq' hR
 go_enter Tryz.func56,Tryz.ntmps56
 go_wp2_with (go_at_call 96;refine(signs_any _ (HG.out.below bT)).mono ?_;rintro e w' ⟨rfl,rfl⟩)
 have HC:=hid (strCells_at Tk.sgs)
 generalize strCells Tk.sgs=SC at *
 go_loop [66] (fun i=>∃ k:Nat,k≤26∧i=.int .i64 k∧Hid ((Tk.sgs.drop k).find? (Tk.beg s.data.toList)=Tk.sgs.find? (Tk.beg s.data.toList))) (fun i=>26 - (intOf i).toNat)
 case atStart=>exact⟨0,by omega,rfl,hid rfl⟩
 case round =>
  obtain⟨k,hk,rfl,H⟩:=hrel
  by_cases hlt:k<26
  ·have ck:=HC.out k (by omega)
   have HD:=hid (List.drop_eq_getElem_cons (l:=Tk.sgs) (i:=k) (by omega))
   generalize Tk.sgs[k]=sg at *
   cases hb:Tk.beg s.data.toList sg
   ·have HP:=hid (hp_beg hb)
    have HN:=hid (show(Tk.sgs.drop (k+1)).find? (Tk.beg s.data.toList)=Tk.sgs.find? (Tk.beg s.data.toList)by rw [← H.out,HD.out,List.find?_cons,hb])
    clear H HD hb
    go_wp2_with (go_at_call 54;(with_reducible refine(HP.out _).mono ?_);rintro e w' ⟨rfl,rfl⟩)
    refine⟨⟨k+1,by omega,by simp,HN⟩,by simp [intOf];omega⟩
   ·have HP:=hid (hp_beg hb)
    have HN:=hid (show R=.ok (6,sg,0,sg.length)by rw [HV.out,← H.out,HD.out,List.find?_cons,hb])
    clear H HD hb HV
    go_wp2_with (go_at_call 54;(with_reducible refine(HP.out _).mono ?_);rintro e w' ⟨rfl,rfl⟩)
    go_returns
    refine⟨?_,more_of_below bT⟩
    rw [HN.out]
    exact⟨⟨sg.toArray⟩,rfl,rfl⟩
  ·have hke:k=26:=by omega
   subst hke
   have HN:=hid (show R=.error 90 by rw [HV.out,← H.out,List.drop_eq_nil_of_le (by omega)];rfl)
   clear H HV
   go_wp2
   go_returns
   refine⟨?_,more_of_below bT⟩
   rw [HN.out]
   exact⟨_,_,_,_,_,rfl⟩
theorem token_any(s:ByteArray)(x b1 b2 b3 b4 m:Nat)(w:World)(hs:s.size<4294967281)(hL:Tk.Lx w x b1 b2 b3 b4 m)(hg:Gs w)(h1:0<s.size)(R:Tk.R)(hR:Tk.tokF s.data.toList=R) :
  Calls Tryz.prog 56 #[.pointer (some ⟨x,0,none⟩),.string s] w fun e w'=>Tk.TokRet R 0 0 e∧∃ g,w'=more w g:=by
 subst hR
 rw [Tk.tokF_at s h1]
 cases hc:Tk.letter s[0]
 ·rw [if_neg (by simp)]
  cases hd:Tk.digit s[0]
  ·rw [if_neg (by simp)]
   by_cases hq:s[0]=34
   ·rw [if_pos hq];exact token_text s x b1 b2 b3 b4 m w hs hL h1 hc hd hq
   ·rw [if_neg hq];exact token_sign s x b1 b2 b3 b4 m w hs hL hg h1 hc hd hq _ rfl
  ·rw [if_pos rfl];exact token_number s x b1 b2 b3 b4 m w hs hL hg h1 hc hd
 ·rw [if_pos rfl];exact token_word s x b1 b2 b3 b4 m w hs hL h1 hc
namespace Tk
def tokCells(ts:List Tok):List Value:=ts.flatMap fun t=>[.int .i64 t.1,.string ⟨t.2.1.toArray⟩,.int .i64 t.2.2.1,.int .i64 t.2.2.2]
theorem tokCells_snoc(ts:List Tok)(t:Tok):tokCells (ts++[t])=tokCells ts++[.int .i64 t.1,.string ⟨t.2.1.toArray⟩,.int .i64 t.2.2.1,.int .i64 t.2.2.2]:=by simp [tokCells]
theorem tokCells_at(ts:List Tok)(k:Nat)(h:k<ts.length):(tokCells ts)[k * 4]?=some (.int .i64 ts[k].1)∧(tokCells ts)[k * 4+1]?=some (.string ⟨ts[k].2.1.toArray⟩)∧(tokCells ts)[k * 4+2]?=some (.int .i64 ts[k].2.2.1)∧(tokCells ts)[k * 4+3]?=some (.int .i64 ts[k].2.2.2):=by
 induction ts generalizing k with
 | nil=>simp at h
 | cons p t ih =>
  cases k with
  | zero=>simp [tokCells]
  | succ k =>
   have:=ih k (by simpa using h)
   simp only [tokCells,List.flatMap_cons,List.getElem_cons_succ]at this ⊢
   rw [show(k+1) * 4=k * 4+4 from by omega]
   simpa using this
def pre(ts:List Tok)(r:Except (Nat × Int) (List Tok)):Except (Nat × Int) (List Tok):=match r with | .ok l => .ok (ts++l) | .error e => .error e
def lexR(s:ByteArray):Except (Nat × Int) (List Tok):=if 16384<s.size then .error (0,2)else lexF s.data.toList 0 0
def LexRet(w0 w':World)(R:Except (Nat × Int) (List Tok))(e:Ending):Prop:=
 match R with
 | .ok ts=>∃ v,e=.returned (.tuple #[v,.int .i64 0,.int .i64 0])∧Reads w' v ts.length 4 (tokCells ts)∧ts.length≤6000∧w'.ownsRow w0.heap.size 40 4 v ts.length (tokCells ts)
 | .error (p,c)=>e=.returned (.tuple #[.slice none 0 0,.int .i64 p,.int .i64 c])
theorem tokF_err{l:List UInt8}{c:Int}(h:tokF l=.error c):c=2∨c=90∨c=91:=by
 unfold tokF at h
 split at h
 ·injection h with h;omega
 ·split at h
  ·unfold wordT at h
   simp only at h
   split at h
   ·cases h
   ·split at h
    ·injection h with h;omega
    ·cases h
  ·split at h
   ·unfold numT at h
    simp only at h
    split at h
    ·split at h
     ·cases h
     ·injection h with h;omega
    ·split at h
     ·split at h
      ·cases h
      ·injection h with h;omega
     ·split at h
      ·injection h with h;omega
      ·split at h
       ·cases h
       ·injection h with h;omega
   ·split at h
    ·unfold textT at h
     simp only at h
     split at h
     ·split at h
      ·injection h with h;omega
      ·cases h
     ·injection h with h;omega
    ·unfold signT at h
     split at h
     ·cases h
     ·split at h
      ·split at h
       ·cases h
       ·injection h with h;omega
      ·injection h with h;omega
theorem pre_tok(ts:List Tok)(t:Tok)(r:Except (Nat × Int) (List Tok)):pre ts (match r with | .error e => .error e | .ok r => .ok (t::r))=pre (ts++[t]) r:=by
 cases r <;> simp [pre]
end Tk
theorem info_tok:(Tryz.prog.info? 40).map (fun i=>(i.zero,i.size,i.bytes))=some (some (.agg #[.int .i64 0,.string ⟨#[]⟩,.int .i64 0,.int .i64 0]),4,40):=by kernel_rfl
theorem owns_form{w:World}{base:Nat}{e:TypeId}{size:Nat}{v:Value}{n:Nat}{xs:List Value}(h:w.ownsRow base e size v n xs):∃ a cap,v=.slice a n cap∧n≤cap∧cap≤maxLen:=by
 rcases h.2 with⟨rfl,rfl⟩|⟨g,cap,cur,rfl,_,hg,hn,hm,_⟩
 ·exact⟨none,0,rfl,by omega,by decide⟩
 ·exact⟨_,cap,rfl,hn,hm⟩
theorem owns_kept{w w':World}{base:Nat}{e:TypeId}{size:Nat}{v:Value}{n:Nat}{xs:List Value}(h:w.ownsRow base e size v n xs)(hb:Below w.heap.size w w'):w'.ownsRow base e size v n xs:=
 h.kept (row:=none) ⟨hb.os,hb.tape,hb.output,hb.size,fun k hk _=>hb.block k hk⟩ (by cases hv:v.ownBlock <;> simp)
theorem reads_token(w:World)(p:Nat)(a b c d:Value)(e:TypeId)(hp:p=w.heap.size):Reads (w.alloc (.cells #[a,b,c,d] e)) (.slice (some ⟨p,0,none⟩) 1 1) 1 4 [a,b,c,d]:=by
 subst hp;exact reads_lit w #[a,b,c,d] e 1 4 (by decide) rfl
theorem lex_any(s:ByteArray)(w:World)(hg:Gs w)(hs:s.size<4294967281) :
  Calls Tryz.prog 17 #[.string s] w fun e w'=>Tk.LexRet w w' (Tk.lexR s) e∧∃ g,w'=more w g:=by
 by_cases hbig:16384<s.size
 ·have hR:Tk.lexR s=.error (0,2):=by simp [Tk.lexR,hbig]
  rw [hR]
  clear hR hg
  go_enter Tryz.func17,Tryz.ntmps17
  go_wp2
  go_returns
  exact⟨rfl,more_refl _⟩
 obtain⟨R,hR⟩:∃ R,Tk.lexR s=R:=⟨_,rfl⟩
 rw [hR]
 have HV:=hid (show R=Tk.lexF s.data.toList 0 0 by rw [← hR];simp [Tk.lexR,hbig])
 have HG:=hid hg
 obtain⟨i0,hi,hz0,hz1,hz2⟩:=info_parts info_tok
 clear hR hg
 go_enter Tryz.func17,Tryz.ntmps17
 go_wp2_with (go_at_call 53;refine(begun_any _ HG.out).mono ?_;rintro e w' ⟨⟨x,b1,b2,b3,b4,m,rfl,hL⟩,g0,rfl⟩)
 generalize hW:more w g0=w' at *
 have HB0:Below w.heap.size w w':=by rw [← hW];exact bT
 have HG0:=hid (HG.out.below HB0)
 replace HB0:=hid HB0
 have HL:=hid hL
 clear hW hL HG
 go_loopw [6,7] (fun v i wr=>∃(p:Nat) (ts:List Tk.Tok),i=.int .i64 p∧p≤s.size∧ts.length≤6000∧wr.ownsRow w'.heap.size 40 4 v ts.length (Tk.tokCells ts)∧Below w'.heap.size w' wr∧Hid (R=Tk.pre ts (Tk.lexF (s.data.toList.drop p) p ts.length))) (fun _ i _=>s.size - (intOf i).toNat)
 case atStart=>exact⟨0,[],rfl,by omega,by simp,World.ownsRow_nil _ _ _ _,Below.refl _ _,hid (by rw [HV.out];simp only [List.drop_zero,List.length_nil];cases Tk.lexF s.data.toList 0 0 <;> rfl)⟩
 case round =>
  obtain⟨p,ts,rfl,hp,hk,hown,hBw,H⟩:=hrel
  have hsz:=hBw.size
  have HLw:=hid (HL.out.below hBw)
  have HGw:=hid (HG0.out.below hBw)
  have HO:=hid hown
  obtain⟨va,cap,rfl,hc1,hc2⟩:=owns_form hown
  have HBW:=hid hBw
  clear hown hBw
  by_cases hlt:p<s.size
  ·have hD:=Tk.drop_at s p hlt
   have HQl:=hid (Tk.rest_list s p)
   have hQs:=Tk.extract_rest_size s p
   generalize hQ:s.extract p s.size=Q at *
   generalize hc:s[p]=c at *
   have h256:c.toNat<256:=c.toNat_lt
   cases hbl:Tk.blank c
   ·obtain⟨n9,n10,n13,n32⟩:=Tk.blank_no hbl
    have b9:((c.toNat:Int) == 9)=false:=by simp;omega
    have b10:((c.toNat:Int) == 10)=false:=by simp;omega
    have b13:((c.toNat:Int) == 13)=false:=by simp;omega
    have b32:((c.toNat:Int) == 32)=false:=by simp;omega
    clear n9 n10 n13 n32
    cases hop:Tk.opens (s.data.toList.drop p)
    ·have HP:=hid (hp_any (t:=Q) (p:=⟨#[40,42]⟩) (b:=false) (by rw [Tk.hp_take,HQl.out];exact hop))
     cases ht:Tk.tokF (s.data.toList.drop p)with
     | error ec =>
      have he:=Tk.tokF_err ht
      have HV:=hid (show R=.error (p,ec)by
       rw [H.out]
       rw [hD]at ht hop ⊢
       rw [Tk.lexF_err p _ hbl hop ht];rfl)
      have HT:∀ W,Tk.Lx W x b1 b2 b3 b4 m→Gs W→Calls Tryz.prog 56 #[.pointer (some ⟨x,0,none⟩),.string Q] W fun e w'=>(∃ f t n a2 m2,e=.returned (.tuple #[.agg #[.int .i64 f,.string t,.int .i64 n,.int .i64 a2],.int .i64 m2,.int .i64 ec]))∧∃ g,w'=more W g:=
       fun W hL hg=>(token_any Q x b1 b2 b3 b4 m W (by omega) hL hg (by omega) (.error ec) (by rw [HQl.out];exact ht)).mono fun e w' ⟨⟨f,t,n,a,m,h⟩,h2⟩=>⟨⟨f,t,n,a,m,h⟩,h2⟩
      replace HT:=hid HT
      have e1:(ec == 0)=false:=by simp;omega
      have e2:(ec != 0)=true:=by simp;omega
      clear hbl hop ht hD H he
      go_wp2_with (first|(go_at_call 54;(with_reducible refine(HP.out _).mono ?_);rintro e w2 ⟨rfl,rfl⟩)|(go_at_call 56;(with_reducible refine(HT.out _ ?_ ?_).mono ?_);(focus(exact HLw.out.below (by repeat' ((with_reducible exact Below.refl _ _)))));(focus(exact HGw.out.below (by repeat' ((with_reducible exact Below.refl _ _)))));rintro e w2 ⟨⟨f,t,n,a2,m2,rfl⟩,g,rfl⟩))
      go_returns
      exact⟨by rw [HV.out];rfl,(by have hBw2:=HBW.out;have hB2:=HB0.out;exact more_of_below (hB2.trans (Below.mono (by repeat' (first|with_reducible(first|assumption|refine below_more ?_ ?_ _|refine Below.alloc ?_ ?_ _)|(simp [more_size];omega))) hB2.size)))⟩
     | ok v4 =>
      obtain⟨kd,tw,tn,tm⟩:=v4
      have hm:=Tk.tokF_len ht
      have hm2:p+tm≤s.size:=by have:=hm.2;simp at this;omega
      have HT:∀ W,Tk.Lx W x b1 b2 b3 b4 m→Gs W→Calls Tryz.prog 56 #[.pointer (some ⟨x,0,none⟩),.string Q] W fun e w'=>e=.returned (.tuple #[.agg #[.int .i64 kd,.string ⟨tw.toArray⟩,.int .i64 tn,.int .i64 0],.int .i64 (tm:Int),.int .i64 0])∧∃ g,w'=more W g:=
       fun W hL hg=>(token_any Q x b1 b2 b3 b4 m W (by omega) hL hg (by omega) (.ok (kd,tw,tn,tm)) (by rw [HQl.out];exact ht)).mono fun e w' ⟨⟨t,h1,h2⟩,h3⟩=>⟨by rw [h2,← h1,bytes_self];rfl,h3⟩
      replace HT:=hid HT
      by_cases h6:ts.length=6000
      ·have HV:=hid (show R=.error (p,3)by
        rw [H.out]
        rw [hD]at ht hop ⊢
        rw [Tk.lexF_tok p _ hbl hop ht,if_pos h6];rfl)
       have h6':((ts.length:Int) == 6000)=true:=by simp;omega
       clear hbl hop ht hD H
       go_wp2_with (first|(go_at_call 54;(with_reducible refine(HP.out _).mono ?_);rintro e w2 ⟨rfl,rfl⟩)|(go_at_call 56;(with_reducible refine(HT.out _ ?_ ?_).mono ?_);(focus(exact HLw.out.below (by repeat' ((with_reducible exact Below.refl _ _)))));(focus(exact HGw.out.below (by repeat' ((with_reducible exact Below.refl _ _)))));rintro e w2 ⟨rfl,g,rfl⟩))
       go_returns
       exact⟨by rw [HV.out];rfl,(by have hBw2:=HBW.out;have hB2:=HB0.out;exact more_of_below (hB2.trans (Below.mono (by repeat' (first|with_reducible(first|assumption|refine below_more ?_ ?_ _|refine Below.alloc ?_ ?_ _)|(simp [more_size];omega))) hB2.size)))⟩
      ·have HV:=hid (show R=Tk.pre (ts++[(kd,tw,tn,(p:Int))]) (Tk.lexF (s.data.toList.drop (p+tm)) (p+tm) (ts++[(kd,tw,tn,(p:Int))]).length)by
        rw [H.out]
        rw [← List.drop_drop,List.length_append,List.length_singleton]
        rw [hD]at ht hop ⊢
        rw [Tk.lexF_tok p _ hbl hop ht,if_neg h6]
        exact Tk.pre_tok _ _ _)
       have h6':((ts.length:Int) == 6000)=false:=by simp;omega
       have HN:=hid (Tk.tokCells_snoc ts (kd,tw,tn,(p:Int)))
       have hm1:=hm.1
       clear hbl hop ht hD H hm
       go_wp2_with (first|(go_at_call 54;(with_reducible refine(HP.out _).mono ?_);rintro e w2 ⟨rfl,rfl⟩)|(go_at_call 56;(with_reducible refine(HT.out _ ?_ ?_).mono ?_);(focus(exact HLw.out.below (by repeat' ((with_reducible exact Below.refl _ _)))));(focus(exact HGw.out.below (by repeat' ((with_reducible exact Below.refl _ _)))));rintro e w2 ⟨rfl,g,rfl⟩)|(at_builtin;refine wpList_append_reads rfl _ _ 35 rfl w'.heap.size 40 i0 (.agg #[.int .i64 0,.string ⟨#[]⟩,.int .i64 0,.int .i64 0]) 4 40 Tryz.underlying35 hi hz0 hz1 hz2 rfl (by decide) _ ts.length _ rfl (owns_kept HO.out ?_) _ 1 [.int .i64 kd,.string ⟨tw.toArray⟩,.int .i64 tn,.int .i64 p] rfl (reads_token _ _ _ _ _ _ 40 ?_) ?_ ?_ ?_ ?_ ?_;(focus(exact bT));(focus(simp [more_size];done));(focus(intro q hq;simp at hq;rcases hq with rfl|rfl|rfl|rfl <;> rfl));(focus(unfold maxLen;omega));(focus omega);(focus((simp [more_size];omega)));intro v' w1 hown' hgrow))
       have hBn:Below w'.heap.size w' w1:=by
        refine below_grown ?_ ?_ hgrow (owns_rows HO.out)
        ·have hBw2:=HBW.out;exact(by repeat' (first|with_reducible(first|assumption|refine below_more ?_ ?_ _|refine Below.alloc ?_ ?_ _)|(simp [more_size];omega)))
        ·first|(simp [more_size];omega)|omega
       have HX:=hid hown'
       have HY:=hid hBn
       clear hown' hBn hgrow
       go_roundw
       case rel=>exact⟨p+tm,ts++[(kd,tw,tn,(p:Int))],by go_num,hm2,by simp;omega,by rw [HN.out,List.length_append,List.length_singleton];exact HX.out,HY.out,HV⟩
       case measure=>simp [intOf];omega
    ·have HP:=hid (hp_any (t:=Q) (p:=⟨#[40,42]⟩) (b:=true) (by rw [Tk.hp_take,HQl.out];exact hop))
     cases hcm:Tk.cmt (s.data.toList.drop p) 0 with
     | none =>
      have HV:=hid (show R=.error (p,90)by
       rw [H.out]
       rw [hD]at hcm hop ⊢
       rw [Tk.lexF_cmt_none p _ hbl hop hcm];rfl)
      have HC:∀ W,Calls Tryz.prog 55 #[.string Q] W fun e w'=>e=.returned (.int .i64 0)∧w'=W:=fun W=>(comment_any Q W (by omega)).mono fun e w' ⟨h1,h2⟩=>⟨by rw [h1,HQl.out,hcm];rfl,h2⟩
      replace HC:=hid HC
      clear hbl hop hcm hD H
      go_wp2_with (first|(go_at_call 54;(with_reducible refine(HP.out _).mono ?_);rintro e w2 ⟨rfl,rfl⟩)|(go_at_call 55;(with_reducible refine(HC.out _).mono ?_);rintro e w2 ⟨rfl,rfl⟩))
      go_returns
      exact⟨by rw [HV.out];rfl,(by have hBw2:=HBW.out;have hB2:=HB0.out;exact more_of_below (hB2.trans (Below.mono (by repeat' ((with_reducible assumption))) hB2.size)))⟩
     | some n =>
      have hn:=Tk.cmt_len _ _ _ hcm
      have hn2:p+n≤s.size:=by have:=hn.2;simp at this;omega
      have HV:=hid (show R=Tk.pre ts (Tk.lexF (s.data.toList.drop (p+n)) (p+n) ts.length)by
       rw [H.out]
       rw [← List.drop_drop]
       rw [hD]at hcm hop ⊢
       rw [Tk.lexF_cmt p _ hbl hop hcm])
      have HC:∀ W,Calls Tryz.prog 55 #[.string Q] W fun e w'=>e=.returned (.int .i64 n)∧w'=W:=fun W=>(comment_any Q W (by omega)).mono fun e w' ⟨h1,h2⟩=>⟨by rw [h1,HQl.out,hcm];rfl,h2⟩
      replace HC:=hid HC
      have hn1:=hn.1
      have hn0:((n:Int) == 0)=false:=by simp;omega
      clear hbl hop hcm hD H hn
      go_wp2_with (first|(go_at_call 54;(with_reducible refine(HP.out _).mono ?_);rintro e w2 ⟨rfl,rfl⟩)|(go_at_call 55;(with_reducible refine(HC.out _).mono ?_);rintro e w2 ⟨rfl,rfl⟩))
      refine⟨⟨p+n,ts,by go_num,hn2,hk,HO.out,HBW.out,HV⟩,by simp [intOf];omega⟩
   ·have HV:=hid (show R=Tk.pre ts (Tk.lexF (s.data.toList.drop (p+1)) (p+1) ts.length)by rw [H.out,hD,Tk.lexF_blank p _ hbl])
    have hor:=(Tk.blank_iff c).1 hbl
    clear hbl hD H
    rcases hor with h|h|h|h
    ·have b9:((c.toNat:Int) == 9)=true:=by simp;omega
     go_wp2
     refine⟨⟨p+1,ts,by go_num,by omega,hk,HO.out,HBW.out,HV⟩,by simp [intOf];omega⟩
    ·have b9:((c.toNat:Int) == 9)=false:=by simp;omega
     have b10:((c.toNat:Int) == 10)=true:=by simp;omega
     go_wp2
     refine⟨⟨p+1,ts,by go_num,by omega,hk,HO.out,HBW.out,HV⟩,by simp [intOf];omega⟩
    ·have b9:((c.toNat:Int) == 9)=false:=by simp;omega
     have b10:((c.toNat:Int) == 10)=false:=by simp;omega
     have b13:((c.toNat:Int) == 13)=true:=by simp;omega
     go_wp2
     refine⟨⟨p+1,ts,by go_num,by omega,hk,HO.out,HBW.out,HV⟩,by simp [intOf];omega⟩
    ·have b9:((c.toNat:Int) == 9)=false:=by simp;omega
     have b10:((c.toNat:Int) == 10)=false:=by simp;omega
     have b13:((c.toNat:Int) == 13)=false:=by simp;omega
     have b32:((c.toNat:Int) == 32)=true:=by simp;omega
     go_wp2
     refine⟨⟨p+1,ts,by go_num,by omega,hk,HO.out,HBW.out,HV⟩,by simp [intOf];omega⟩
  ·have he:p=s.size:=by omega
   have HV:=hid (show R=.ok ts by rw [H.out,List.drop_eq_nil_of_le (by simp;omega),Tk.lexF_nil];simp [Tk.pre])
   clear H
   go_wp2
   go_returns
   refine⟨?_,(by have hBw2:=HBW.out;have hB2:=HB0.out;exact more_of_below (hB2.trans (Below.mono (by repeat' ((with_reducible assumption))) hB2.size)))⟩
   rw [HV.out]
   exact⟨_,rfl,Reads.of_owns HO.out,hk,owns_down HO.out HB0.out.size⟩
end Go.Proofs.YtlhmkfcbldghfaaGreatDoor
