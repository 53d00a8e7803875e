/- What Text answers,by plain definition;the walk of token.Text. Conditions: the library's variables are as they were laid;at most 7000 tokens,the texts of which have at most 200 bytes each. -/
import Derived.Test.YtlhmkfcbldghfaaGreatDoorTokSq
import Derived.Test.YtlhmkfcbldghfaaGreatDoorTokI
import Derived.Test.YtlhmkfcbldghfaaGreatDoorTkC
import Derived.Lib.Join
import Derived.Test.YtlhmkfcbldghfaaGreatDoorOpen2W
namespace Go.Proofs.YtlhmkfcbldghfaaGreatDoor
set_option linter.all false
open Go.Lib (hid)
set_option maxRecDepth 1000000
set_option maxHeartbeats 16000000
open Go.RowKit
namespace Tk
def goodT(t:Tok):Prop:=Good t.1 t.2.1 t.2.2.1
def spellT(t:Tok):List UInt8:=spell t.1 t.2.1 t.2.2.1
def sentT(ts:List Tok):List UInt8:=joinS (ts.map spellT)
open Classical in
noncomputable def textR (ts:List Tok):Except Int (List UInt8):=
 if 6000<ts.length then .error 3 else if ∀ t∈ts,goodT t then(if 16384<(sentT ts).length then .error 2 else .ok (sentT ts))else .error 1
def TextRet(R:Except Int (List UInt8))(e:Ending):Prop:=
 match R with
 | .ok l=>e=.returned (.tuple #[.string ⟨l.toArray⟩,.int .i64 0])
 | .error c=>e=.returned (.tuple #[.string ⟨#[]⟩,.int .i64 c])
def smallT(t:Tok):Prop:=t.2.1.length≤200 ∧ -9223372036854775808≤t.2.2.1∧t.2.2.1<9223372036854775808
theorem spell_len{t:Tok}(h:smallT t)(hg:goodT t):(spellT t).length≤66:=((spelt_iff _ _ _).2 hg).2.1
theorem joinS_eq(l:List (List UInt8)):Lib.join l [32]=joinS l:=by
 induction l with
 | nil=>rfl
 | cons x t ih =>
  cases t with
  | nil=>simp [joinS,Lib.join_one]
  | cons y u =>
   rw [joinS,← ih,Lib.join,Lib.join,List.intercalate,List.intercalate,List.intersperse]
   all_goals simp
theorem joinS_len(l:List (List UInt8))(h:∀ s∈l,s.length≤66):(joinS l).length≤67 * l.length:=by
 induction l with
 | nil=>simp [joinS]
 | cons x t ih =>
  have hx:=h x (List.mem_cons_self ..)
  have:=ih fun s hs=>h s (List.mem_cons_of_mem _ hs)
  cases t with
  | nil=>simp [joinS];omega
  | cons y u=>simp [joinS]at this ⊢;omega
theorem strCells_snoc(l:List (List UInt8))(s:ByteArray):(strCells (l++[s.data.toList])).toList=(strCells l).toList++[.string s]:=by
 simp [strCells]
end Tk
theorem info_str:(Tryz.prog.info? 9).map (fun i=>(i.zero,i.size,i.bytes))=some (some (.string ⟨#[]⟩),1,16):=by kernel_rfl
theorem reads_one(w:World)(p:Nat)(a:Value)(e:TypeId)(hp:p=w.heap.size):Reads (w.alloc (.cells #[a] e)) (.slice (some ⟨p,0,none⟩) 1 1) 1 1 [a]:=by
 subst hp;exact reads_lit w #[a] e 1 1 (by decide) rfl
theorem bytes_ext{a b:ByteArray}(h:a.data.toList=b.data.toList):a=b:=by
 apply ByteArray.ext;exact Array.toList_inj.1 h
theorem join_own(v:Value)(n:Nat)(l:List (List UInt8))(W w:World)(base:Nat)(hn:l.length=n)(hown:w.ownsRow base 9 1 v n (strCells l).toList)(h7:n≤7000)(hl:(Tk.joinS l).length≤1000000) :
  Calls Tryz.prog 154 #[v,.string ⟨#[32]⟩] w fun e w'=>e=.returned (.string ⟨(Tk.joinS l).toArray⟩)∧∃ g,w'=more w g:=by
 rcases hown.2 with⟨h0,rfl⟩|⟨g,cap,cur,rfl,hbg,hg0,hnc,hcm,hcs,htake⟩
 ·subst h0
  have:l=[]:=List.length_eq_zero_iff.1 hn
  subst this
  clear hown hl
  go_enter Tryz.func154,Tryz.ntmps154
  go_wp2
  go_ret
  exact⟨rfl,more_refl _⟩
 ·have hc:=hown.cells (g:=g) rfl
  have hz:g<w.heap.size:=by have:=hown.lt g rfl;exact this.2
  have hm:(l.map fun s=>(⟨s.toArray⟩:ByteArray)).map (·.data.toList)=l:=by simp [Function.comp_def]
  have hj:=Tryz.strings_Join g 0 cap (l.map fun s=>(⟨s.toArray⟩:ByteArray)) ⟨#[32]⟩ w (fun j x hx=>?_) hz (by simp;omega) (by simp;omega) (by rw [hm,Tk.joinS_eq];omega)
  ·rw [hm,Tk.joinS_eq]at hj
   rw [List.length_map,hn]at hj
   exact hj.mono fun e w' ⟨h1,h2⟩=>⟨h1,more_of_below h2⟩
  ·have:=hc j (.string x) (by simp [strCells]at hx ⊢;obtain⟨a,ha,rfl⟩:=hx;exact⟨a,ha,rfl⟩)
   unfold Addr.add at this
   split at this
   ·rename_i h;rw [h];exact this
   ·simpa using this
def tokV(t:Tk.Tok):Value:=.agg #[.int .i64 t.1,.string ⟨t.2.1.toArray⟩,.int .i64 t.2.2.1,.int .i64 t.2.2.2]
theorem spelt_yes(x b1 b2 b3 b4 m:Nat)(t:Tk.Tok)(w:World)(hL:Tk.Lx w x b1 b2 b3 b4 m)(hG:Gx w)(hs:Tk.smallT t)(hg:Tk.goodT t) :
  Calls Tryz.prog 153 #[.pointer (some ⟨x,0,none⟩),tokV t] w fun e w'=>e=.returned (.tuple #[.string ⟨(Tk.spellT t).toArray⟩,.bool true])∧∃ g,w'=more w g:=by
 refine(spelt_any x b1 b2 b3 b4 m t.1 t.2.2.1 t.2.2.2 ⟨t.2.1.toArray⟩ w hL hG (by show t.2.1.toArray.size≤_;have:=hs.1;simp;omega) hs.2.1 hs.2.2).mono ?_
 rintro e w' ⟨⟨str,b,rfl,H⟩,h2⟩
 obtain⟨h3,h4⟩:=H.out
 have hb:b=true:=h3.2 (Tk.good_spelt hg)
 subst hb
 refine⟨?_,h2⟩
 rw [bytes_ext (a:=str) (b:=⟨(Tk.spellT t).toArray⟩) (h4 rfl)]
theorem spelt_no(x b1 b2 b3 b4 m:Nat)(t:Tk.Tok)(w:World)(hL:Tk.Lx w x b1 b2 b3 b4 m)(hG:Gx w)(hs:Tk.smallT t)(hg:¬ Tk.goodT t) :
  Calls Tryz.prog 153 #[.pointer (some ⟨x,0,none⟩),tokV t] w fun e w'=>(∃ str,e=.returned (.tuple #[.string str,.bool false]))∧∃ g,w'=more w g:=by
 refine(spelt_any x b1 b2 b3 b4 m t.1 t.2.2.1 t.2.2.2 ⟨t.2.1.toArray⟩ w hL hG (by show t.2.1.toArray.size≤_;have:=hs.1;simp;omega) hs.2.1 hs.2.2).mono ?_
 rintro e w' ⟨⟨str,b,rfl,H⟩,h2⟩
 obtain⟨h3,h4⟩:=H.out
 have hb:b=false:=by
  cases b
  ·rfl
  ·exact absurd (Tk.spelt_good (h3.1 rfl)) hg
 subst hb
 exact⟨⟨str,rfl⟩,h2⟩
theorem ttext_any(v:Value)(ts:List Tk.Tok)(w:World)(hG:Gx w)(hR:Reads w v ts.length 4 (Tk.tokCells ts))(hsm:∀ t∈ts,Tk.smallT t)(h7:ts.length≤7000) :
  Calls Tryz.prog 118 #[v] w fun e w'=>Tk.TextRet (Tk.textR ts) e∧∃ g,w'=more w g:=by
 obtain⟨va,cap,hva⟩:∃ va cap,v=.slice va ts.length cap:=by
  rcases hR.2 with⟨h0,a,cap,rfl,-⟩|⟨b,off,cap,rfl,-⟩
  ·exact⟨a,cap,by rw [h0]⟩
  ·exact⟨_,cap,rfl⟩
 by_cases h6:6000<ts.length
 ·have hT:Tk.textR ts=.error 3:=by unfold Tk.textR;rw [if_pos h6]
  rw [hT]
  have h6':(6000:Int)<(ts.length:Int):=by omega
  subst hva
  clear hT hR hsm h7 h6 hG
  go_enter Tryz.func118,Tryz.ntmps118
  go_wp2
  go_ret2
  exact⟨rfl,more_refl _⟩
 have h6':(ts.length:Int)≤6000:=by omega
 have h60:ts.length≤6000:=by omega
 have HG:=hid hG
 have HR:=hid hR
 have HSM:=hid hsm
 obtain⟨i0,hi,hz0,hz1,hz2⟩:=info_parts info_str
 have hbv:∀ k,(hk:k<ts.length)→∃ b off,va=some ⟨b,off,none⟩∧b<w.heap.size∧w.cell? ⟨b,off+k * 4,none⟩=some (.int .i64 ts[k].1)∧w.cell? ⟨b,off+k * 4+1,none⟩=some (.string ⟨ts[k].2.1.toArray⟩)∧w.cell? ⟨b,off+k * 4+2,none⟩=some (.int .i64 ts[k].2.2.1)∧w.cell? ⟨b,off+k * 4+3,none⟩=some (.int .i64 ts[k].2.2.2):=by
  intro k hk
  subst hva
  rcases hR.2 with⟨h0,-⟩|⟨b,off,cap2,he,-,-,hbl,hc⟩
  ·omega
  ·simp only [Value.slice.injEq]at he
   obtain⟨e1,-,-⟩:=he
   have h1:=Tk.tokCells_at ts k hk
   exact⟨b,off,e1,hbl,hc _ _ h1.1,by have:=hc _ _ h1.2.1;rwa [← Nat.add_assoc]at this,by have:=hc _ _ h1.2.2.1;rwa [← Nat.add_assoc]at this,by have:=hc _ _ h1.2.2.2;rwa [← Nat.add_assoc]at this⟩
 have HBV:=hid hbv
 have hcapl:cap≤maxLen:=by
  subst hva
  rcases hR.2 with⟨h0,a,cp,he,hh⟩|⟨b,off,cp,he,-,hh,-⟩
  ·simp only [Value.slice.injEq]at he;obtain⟨-,-,rfl⟩:=he;exact hh
  ·simp only [Value.slice.injEq]at he;obtain⟨-,-,rfl⟩:=he;exact hh
 have hcap0:ts.length≤cap:=by
  subst hva
  rcases hR.2 with⟨h0,-⟩|⟨b,off,cp,he,hh,-⟩
  ·omega
  ·simp only [Value.slice.injEq]at he;obtain⟨-,-,rfl⟩:=he;exact hh
 subst hva
 clear hG hR hsm hbv h6 h7
 go_enter Tryz.func118,Tryz.ntmps118
 go_wp2_with (go_at_call 53;refine(begun_any _ HG.out.gs).mono ?_;rintro e w' ⟨⟨x,b1,b2,b3,b4,m,rfl,hL⟩,g0,rfl⟩)
 generalize hW:more w g0=w' at *
 have HB0:Below w.heap.size w w':=by rw [← hW];exact bT
 have HG0:=hid (HG.out.below HB0)
 replace HB0:=hid HB0
 have HL:=hid hL
 clear hW hL HG
 go_loopw [5,17] (fun v i wr=>∃(k:Nat),i=.int .i64 k∧k≤ts.length∧wr.ownsRow w'.heap.size 9 1 v k (strCells ((ts.take k).map Tk.spellT)).toList∧Below w'.heap.size w' wr∧Hid (∀ t∈ts.take k,Tk.goodT t)) (fun _ i _=>ts.length - (intOf i).toNat)
 case atStart=>exact⟨0,rfl,by omega,World.ownsRow_nil _ _ _ _,Below.refl _ _,hid (by simp)⟩
 case round =>
  obtain⟨k,rfl,hk,hown,hBw,H⟩:=hrel
  have hsz:=hBw.size
  have HLw:=hid (HL.out.below hBw)
  have HGw:=hid (HG0.out.below hBw)
  have HO:=hid hown
  obtain⟨vb,capb,rfl,hc1,hc2⟩:=owns_form hown
  have HBW:=hid hBw
  have HBB:=hid (HB0.out.trans (Below.mono hBw HB0.out.size))
  clear hown hBw
  by_cases hlt:k<ts.length
  ·obtain⟨b,off,hva,hbl,c0,c1,c2,c3⟩:=HBV.out k hlt
   replace c0:=(HBB.out.cell (p:=⟨b,off+k * 4,none⟩) hbl).trans c0
   replace c1:=(HBB.out.cell (p:=⟨b,off+k * 4+1,none⟩) hbl).trans c1
   replace c2:=(HBB.out.cell (p:=⟨b,off+k * 4+2,none⟩) hbl).trans c2
   replace c3:=(HBB.out.cell (p:=⟨b,off+k * 4+3,none⟩) hbl).trans c3
   replace hbl:=Nat.lt_of_lt_of_le hbl HBB.out.size
   subst hva
   have hmem:ts[k]∈ts:=List.getElem_mem hlt
   have hsmk:=HSM.out _ hmem
   by_cases hgd:Tk.goodT ts[k]
   ·have HSP:=hid (fun W hL hG=>spelt_yes x b1 b2 b3 b4 m ts[k] W hL hG hsmk hgd)
    have HTK:=hid (show(ts.take (k+1)).map Tk.spellT=(ts.take k).map Tk.spellT++[(⟨(Tk.spellT ts[k]).toArray⟩:ByteArray).data.toList]by rw [List.take_succ_eq_append_getElem hlt,List.map_append];rfl)
    have HNX:=hid (show ∀ t∈ts.take (k+1),Tk.goodT t by
     intro t ht
     rw [List.take_succ_eq_append_getElem hlt]at ht
     rcases List.mem_append.1 ht with h|h
     ·exact H.out t h
     ·simp at h;subst h;exact hgd)
    unfold tokV at HSP
    generalize Tk.spellT ts[k]=sp at *
    generalize ts[k]=tk at *
    obtain⟨kd,tw,tn,ta⟩:=tk
    simp only at c0 c1 c2 c3 HSP
    have hi0:(0:Int)≤(k:Int):=by omega
    have hi1:(k:Int)<(ts.length:Int):=by omega
    clear hgd hsmk hmem H
    go_wp2_with (first|(go_at_call 153;(with_reducible refine(HSP.out _ ?_ ?_).mono ?_);(focus(exact HLw.out.below bT));(focus(exact HGw.out.below bT));rintro e w2 ⟨rfl,g,rfl⟩)|(at_builtin;refine wpList_append_reads rfl _ _ 160 rfl w'.heap.size 9 i0 (.string ⟨#[]⟩) 1 16 Tryz.underlying160 hi hz0 hz1 hz2 rfl (by decide) _ k _ rfl (owns_kept HO.out ?_) _ 1 [.string ⟨sp.toArray⟩] rfl (reads_one _ _ _ 9 ?_) ?_ ?_ ?_ ?_ ?_;(focus(exact bT));(focus(simp [more_size];done));(focus(intro q hq;simp at hq;subst hq;rfl));(focus(unfold maxLen;omega));(focus omega);(focus(first|(simp [more_size];omega)|omega));intro v' w1 hown' hgrow))
    have hBn:Below w'.heap.size w' w1:=by
     refine below_grown ?_ ?_ hgrow (owns_rows HO.out)
     ·have hBw2:=HBW.out;exact bT
     ·first|(simp [more_size];omega)|omega
    refine⟨⟨k+1,by go_num,by omega,?_,hBn,HNX⟩,by simp [intOf];omega⟩
    have e:(strCells ((ts.take k).map Tk.spellT++[sp])).toList=(strCells ((ts.take k).map Tk.spellT)).toList++[.string ⟨sp.toArray⟩]:=Tk.strCells_snoc _ ⟨sp.toArray⟩
    rw [HTK.out,e]
    exact hown'
   ·have HSP:=hid (fun W hL hG=>spelt_no x b1 b2 b3 b4 m ts[k] W hL hG hsmk hgd)
    have HV:=hid (show Tk.textR ts=.error 1 by unfold Tk.textR;rw [if_neg (by omega),if_neg (fun h=>hgd (h _ hmem))])
    unfold tokV at HSP
    generalize ts[k]=tk at *
    obtain⟨kd,tw,tn,ta⟩:=tk
    simp only at c0 c1 c2 c3 HSP
    have hi0:(0:Int)≤(k:Int):=by omega
    have hi1:(k:Int)<(ts.length:Int):=by omega
    clear hgd hsmk hmem H
    go_wp2_with (first|(go_at_call 153;(with_reducible refine(HSP.out _ ?_ ?_).mono ?_);(focus(exact HLw.out.below bT));(focus(exact HGw.out.below bT));rintro e w2 ⟨⟨str,rfl⟩,g,rfl⟩))
    go_ret2
    exact⟨by rw [HV.out];rfl,(by have hBw2:=HBW.out;have hB2:=HB0.out;exact more_of_below (hB2.trans (Below.mono bT hB2.size)))⟩
  ·have hke:k=ts.length:=by omega
   subst hke
   rw [List.take_length]at H HO
   have hall:=H.out
   have hjl:(Tk.joinS (ts.map Tk.spellT)).length≤1000000:=by
    have:=Tk.joinS_len (ts.map Tk.spellT) (by
     intro s hs
     obtain⟨t,ht,rfl⟩:=List.mem_map.1 hs
     exact Tk.spell_len (HSM.out t ht) (hall t ht))
    rw [List.length_map]at this
    omega
   have HJ:=hid (fun W (h:W.ownsRow w'.heap.size 9 1 (.slice vb ts.length capb) ts.length (strCells (ts.map Tk.spellT)).toList)=>join_own (.slice vb ts.length capb) ts.length (ts.map Tk.spellT) W W w'.heap.size (by simp) h (by omega) hjl)
   have HV:=hid (show Tk.textR ts=if 16384<(Tk.joinS (ts.map Tk.spellT)).length then .error 2 else .ok (Tk.joinS (ts.map Tk.spellT))by unfold Tk.textR;rw [if_neg (by omega),if_pos hall];rfl)
   have hJl:(⟨(Tk.joinS (ts.map Tk.spellT)).toArray⟩:ByteArray).size=(Tk.joinS (ts.map Tk.spellT)).length:=by show(Tk.joinS (ts.map Tk.spellT)).toArray.size=_;simp
   clear hall
   generalize Tk.joinS (ts.map Tk.spellT)=J at *
   obtain⟨JB,hJB⟩:∃ JB:ByteArray,JB=⟨J.toArray⟩:=⟨_,rfl⟩
   rw [← hJB]at HJ hJl
   by_cases hbig:16384<J.length
   ·have hb1:(16384:Int)<(JB.size:Int):=by omega
    have HV2:=hid (HV.out.trans (if_pos hbig))
    clear hJl hjl hbig HV hJB hlt
    go_wp2_with (go_at_call 154;(with_reducible refine(HJ.out _ ?_).mono ?_);(focus(exact HO.out));rintro e w2 ⟨rfl,g,rfl⟩)
    go_ret2
    exact⟨by rw [HV2.out];rfl,(by have hBw2:=HBW.out;have hB2:=HB0.out;exact more_of_below (hB2.trans (Below.mono bT hB2.size)))⟩
   ·have hb1:(JB.size:Int)≤16384:=by omega
    have HV2:=hid (HV.out.trans (if_neg hbig))
    have HJB:=hid hJB
    clear hJl hjl hbig HV hJB hlt
    go_wp2_with (go_at_call 154;(with_reducible refine(HJ.out _ ?_).mono ?_);(focus(exact HO.out));rintro e w2 ⟨rfl,g,rfl⟩)
    go_ret2
    exact⟨by rw [HV2.out];show Ending.returned _=Ending.returned _;rw [HJB.out];rfl,(by have hBw2:=HBW.out;have hB2:=HB0.out;exact more_of_below (hB2.trans (Below.mono bT hB2.size)))⟩
end Go.Proofs.YtlhmkfcbldghfaaGreatDoor
