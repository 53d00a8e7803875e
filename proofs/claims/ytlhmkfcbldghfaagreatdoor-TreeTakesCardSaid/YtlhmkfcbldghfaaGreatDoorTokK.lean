/- The walk of token's number. Conditions: the text begins with a digit;the lexer's record lies in the world. -/
import Derived.Test.YtlhmkfcbldghfaaGreatDoorTkC
import Derived.BigRegion
import Derived.Deep.RegionWith
namespace Go.Proofs.YtlhmkfcbldghfaaGreatDoor
set_option linter.all false
open Go.Lib (hid)
set_option maxRecDepth 1000000
set_option maxHeartbeats 16000000
open Go.RowKit
theorem number_any(s:ByteArray)(x b1 b2 b3 b4 m:Nat)(w:World)(hs:s.size<4294967281)(hL:Tk.Lx w x b1 b2 b3 b4 m)(hg:Gs w)(R:Tk.R)(hR:Tk.numT s.data.toList=R)(h1:0<s.size)(hd:Tk.digit s[0]=true) :
  Calls Tryz.prog 94 #[.pointer (some ⟨x,0,none⟩),.string s] w fun e w'=>Tk.TokRet R 0 0 e∧∃ g,w'=more w g:=by
 have x0:=hL.x0
 have c3:=hL.c3
 have c4:=hL.c4
 obtain⟨n,hT⟩:∃ n,(s.data.toList.takeWhile Tk.hexa).length=n:=⟨_,rfl⟩
 have hn1:0<n:=by
  have h0:=Tk.drop_at s 0 h1
  simp only [List.drop_zero]at h0
  rw [← hT,h0,List.takeWhile_cons,if_pos (by simp [Tk.hexa,hd])]
  simp
 have hn2:n≤s.size:=by have:=Tk.take_len Tk.hexa s.data.toList;simp at this;omega
 have HV:=hid ((hR.symm.trans (Tk.numT_at s hT)))
 have HD:=hid (Tk.extract_hexa s hT)
 have HT:=hid (fun W=>run_at (w:=W) (b:=b4) hT hs)
 have HT4:=hid hL.t4
 have HT3:=hid hL.t3
 have HG:=hid hg
 have hDs:=Tk.extract_size s n hn2
 have hrl:=Tk.rest_list s n
 generalize hDn:s.extract 0 n=D at *
 generalize hRn:s.extract n s.size=Q at *
 clear hR hd hL hT
 rw [← hrl]at HV
 by_cases hH:Q.data.toList.take 1=[72]
 ·rw [if_pos hH]at HV
  have HH:=hid (hp_any (t:=Q) (p:=⟨#[72]⟩) (b:=true) (by rw [Tk.hp_take];simpa using hH))
  have hw2:IntKind.i64.wrap ((n:Int)+1)=((n+1+0:Nat):Int):=by rw [IntKind.wrap_i64];omega
  clear hH
  generalize hv:Tk.val 16 D.data.toList=v at *
  by_cases hm:v<4294967296
  ·rw [if_pos hm]at HV
   have PU:=hid (pu1_ok (t:=D) (v:=v) (by omega) (by omega) HD.out hv (by omega))
   have hsg:=Sp.wrap32_sgn v (by omega) (by omega)
   have hbd:=Sp.sgn_bd v (by omega) (by omega)
   have hw1:wrap64 (Sp.sgn v)=Sp.sgn v:=by unfold wrap64;omega
   clear hv
   go_enter Tryz.func94,Tryz.ntmps94
   go_wp2_with (first|(go_at_call 92;(with_reducible refine(HT.out _ ?_).mono ?_);(focus(exact HT4.out.keep (B:=w.heap.size) bT HT4.out.1));rintro e w' ⟨rfl,g,rfl⟩)|(go_at_call 54;(with_reducible refine(HH.out _).mono ?_);rintro e w' ⟨rfl,rfl⟩)|(go_at_call 143;(with_reducible refine(PU.out _ ?_).mono ?_);(focus(exact HG.out.below bT));rintro e w' ⟨rfl,g2,rfl⟩))
   go_region_with (go_at_call 144;refine(ranged_any _ _).mono ?_;rintro e w' ⟨rfl,rfl⟩)
   all_goals go_wp2
   all_goals go_returns
   all_goals (refine⟨?_,more_of_below bT⟩;rw [HV.out];refine⟨⟨#[]⟩,rfl,?_⟩;first|rfl|(simp only [hw1,hw2];rfl)|(simp only [hw2];rfl))
  ·rw [if_neg hm]at HV
   have PU:=hid (pu1_no (t:=D) (v:=v) (by omega) (by omega) HD.out hv (by omega))
   clear hv
   go_enter Tryz.func94,Tryz.ntmps94
   go_wp2_with (first|(go_at_call 92;(with_reducible refine(HT.out _ ?_).mono ?_);(focus(exact HT4.out.keep (B:=w.heap.size) bT HT4.out.1));rintro e w' ⟨rfl,g,rfl⟩)|(go_at_call 54;(with_reducible refine(HH.out _).mono ?_);rintro e w' ⟨rfl,rfl⟩)|(go_at_call 143;(with_reducible refine(PU.out _ ?_).mono ?_);(focus(exact HG.out.below bT));rintro e w' ⟨⟨te,pe,rfl⟩,g2,rfl⟩))
   go_region_with (go_at_call 144;refine(ranged_any _ _).mono ?_;rintro e w' ⟨rfl,rfl⟩)
   all_goals go_wp2
   all_goals go_returns
   all_goals (refine⟨?_,more_of_below bT⟩;rw [HV.out];exact⟨_,_,_,_,_,rfl⟩)
 ·rw [if_neg hH]at HV
  have HH:=hid (hp_any (t:=Q) (p:=⟨#[72]⟩) (b:=false) (by rw [Tk.hp_take];simpa using hH))
  clear hH
  by_cases hX:Q.data.toList.take 1=[88]
  ·rw [if_pos hX]at HV
   have HX:=hid (hp_any (t:=Q) (p:=⟨#[88]⟩) (b:=true) (by rw [Tk.hp_take];simpa using hX))
   have hw2:IntKind.i64.wrap ((n:Int)+1)=((n+1+0:Nat):Int):=by rw [IntKind.wrap_i64];omega
   clear hX
   generalize hv:Tk.val 16 D.data.toList=v at *
   by_cases hm:v<256
   ·rw [if_pos hm]at HV
    have PU:=hid (pu2_ok (t:=D) (v:=v) (by omega) (by omega) HD.out hv (by omega))
    have hw1:wrap64 (v:Int)=v:=by unfold wrap64;omega
    clear hv
    go_enter Tryz.func94,Tryz.ntmps94
    go_wp2_with (first|(go_at_call 92;(with_reducible refine(HT.out _ ?_).mono ?_);(focus(exact HT4.out.keep (B:=w.heap.size) bT HT4.out.1));rintro e w' ⟨rfl,g,rfl⟩)|(go_at_call 54;(with_reducible refine(HH.out _).mono ?_);rintro e w' ⟨rfl,rfl⟩)|(go_at_call 54;(with_reducible refine(HX.out _).mono ?_);rintro e w' ⟨rfl,rfl⟩)|(go_at_call 143;(with_reducible refine(PU.out _ ?_).mono ?_);(focus(exact HG.out.below bT));rintro e w' ⟨rfl,g2,rfl⟩))
    go_region_with (go_at_call 144;refine(ranged_any _ _).mono ?_;rintro e w' ⟨rfl,rfl⟩)
    all_goals go_wp2
    all_goals go_returns
    all_goals (refine⟨?_,more_of_below bT⟩;rw [HV.out];refine⟨⟨#[]⟩,rfl,?_⟩;first|rfl|(simp only [hw1,hw2];rfl)|(simp only [hw2];rfl))
   ·rw [if_neg hm]at HV
    have PU:=hid (pu2_no (t:=D) (v:=v) (by omega) (by omega) HD.out hv (by omega))
    clear hv
    go_enter Tryz.func94,Tryz.ntmps94
    go_wp2_with (first|(go_at_call 92;(with_reducible refine(HT.out _ ?_).mono ?_);(focus(exact HT4.out.keep (B:=w.heap.size) bT HT4.out.1));rintro e w' ⟨rfl,g,rfl⟩)|(go_at_call 54;(with_reducible refine(HH.out _).mono ?_);rintro e w' ⟨rfl,rfl⟩)|(go_at_call 54;(with_reducible refine(HX.out _).mono ?_);rintro e w' ⟨rfl,rfl⟩)|(go_at_call 143;(with_reducible refine(PU.out _ ?_).mono ?_);(focus(exact HG.out.below bT));rintro e w' ⟨⟨te,pe,rfl⟩,g2,rfl⟩))
    go_region_with (go_at_call 144;refine(ranged_any _ _).mono ?_;rintro e w' ⟨rfl,rfl⟩)
    all_goals go_wp2
    all_goals go_returns
    all_goals (refine⟨?_,more_of_below bT⟩;rw [HV.out];exact⟨_,_,_,_,_,rfl⟩)
  ·rw [if_neg hX]at HV
   have HX:=hid (hp_any (t:=Q) (p:=⟨#[88]⟩) (b:=false) (by rw [Tk.hp_take];simpa using hX))
   clear hX
   obtain⟨k,hk⟩:∃ k,(D.data.toList.takeWhile Tk.digit).length=k:=⟨_,rfl⟩
   have HU:=hid (fun W=>run_at (w:=W) (b:=b3) hk (by omega))
   have hka:=Tk.tw_lt Tk.digit D.data.toList
   have hkl:=Tk.take_len Tk.digit D.data.toList
   rw [hk]at hka hkl
   have hDl:D.data.toList.length=n:=by simpa using hDs
   rw [hDl]at hka hkl
   clear hk
   cases ha:D.data.toList.all Tk.digit
   ·have hlt:=hka.2 ha
    rw [ha]at HV
    simp only [Bool.not_false,Bool.true_or,if_true]at HV
    have hlt2:(k:Int)<(n:Int):=by omega
    clear hka
    go_enter Tryz.func94,Tryz.ntmps94
    go_wp2_with (first|(go_at_call 92;(with_reducible refine(HT.out _ ?_).mono ?_);(focus(exact HT4.out.keep (B:=w.heap.size) bT HT4.out.1));rintro e w' ⟨rfl,g,rfl⟩)|(go_at_call 54;(with_reducible refine(HH.out _).mono ?_);rintro e w' ⟨rfl,rfl⟩)|(go_at_call 54;(with_reducible refine(HX.out _).mono ?_);rintro e w' ⟨rfl,rfl⟩)|(go_at_call 92;(with_reducible refine(HU.out _ ?_).mono ?_);(focus(exact HT3.out.keep (B:=w.heap.size) bT HT3.out.1));rintro e w' ⟨rfl,g3,rfl⟩))
    go_returns
    all_goals (refine⟨?_,more_of_below bT⟩;rw [HV.out];exact⟨_,_,_,_,_,rfl⟩)
   ·have hlt:¬ k<n:=by rw [hka,ha];simp
    have hkn:k=n:=by omega
    subst hkn
    replace HD:=hid (fun c hc=>List.all_eq_true.1 ha c hc)
    rw [ha]at HV
    clear hka hkl hlt
    cases hdt:Tk.dots Q.data.toList
    ·rw [hdt]at HV
     simp only [Bool.not_true,Bool.or_self,Bool.false_eq_true,if_false]at HV
     have HP1:=hid (hp_any (t:=Q) (p:=⟨#[46]⟩) (b:=Q.data.toList.take 1 == [46]) (by rw [Tk.hp_take];rfl))
     have HP2:=hid (hp_any (t:=Q) (p:=⟨#[46,46]⟩) (b:=Q.data.toList.take 2 == [46,46]) (by rw [Tk.hp_take];rfl))
     have hor:(Q.data.toList.take 1 == [46])=false∨((Q.data.toList.take 1 == [46])=true∧(Q.data.toList.take 2 == [46,46])=true):=by
      simp only [Tk.dots]at hdt
      cases h1:(Q.data.toList.take 1 == [46]) <;> cases h2:(Q.data.toList.take 2 == [46,46]) <;> simp_all [bne]
     have hw2:(k:Int)=((k+0:Nat):Int):=rfl
     clear hdt
     rcases hor with hor|⟨hor,hor2⟩
     ·rw [hor]at HP1
      clear hor
      generalize hv:Tk.val 10 D.data.toList=v at *
      by_cases hm:v<2147483648
      ·rw [if_pos hm]at HV
       have PU:=hid (pu3_ok (t:=D) (v:=v) (by omega) (by omega) HD.out hv (by omega))
       have hw1:wrap64 (v:Int)=v:=by unfold wrap64;omega
       clear hv
       go_enter Tryz.func94,Tryz.ntmps94
       go_wp2_with (first|(go_at_call 92;(with_reducible refine(HT.out _ ?_).mono ?_);(focus(exact HT4.out.keep (B:=w.heap.size) bT HT4.out.1));rintro e w' ⟨rfl,g,rfl⟩)|(go_at_call 54;(with_reducible refine(HH.out _).mono ?_);rintro e w' ⟨rfl,rfl⟩)|(go_at_call 54;(with_reducible refine(HX.out _).mono ?_);rintro e w' ⟨rfl,rfl⟩)|(go_at_call 92;(with_reducible refine(HU.out _ ?_).mono ?_);(focus(exact HT3.out.keep (B:=w.heap.size) bT HT3.out.1));rintro e w' ⟨rfl,g3,rfl⟩)|(go_at_call 54;(with_reducible refine(HP1.out _).mono ?_);rintro e w' ⟨rfl,rfl⟩)|(go_at_call 143;(with_reducible refine(PU.out _ ?_).mono ?_);(focus(exact HG.out.below bT));rintro e w' ⟨rfl,g2,rfl⟩))
       go_region_with (go_at_call 144;refine(ranged_any _ _).mono ?_;rintro e w' ⟨rfl,rfl⟩)
       all_goals go_wp2
       all_goals go_returns
       all_goals (refine⟨?_,more_of_below bT⟩;rw [HV.out];refine⟨⟨#[]⟩,rfl,?_⟩;first|rfl|(simp only [hw1];rfl))
      ·rw [if_neg hm]at HV
       have PU:=hid (pu3_no (t:=D) (v:=v) (by omega) (by omega) HD.out hv (by omega))
       clear hv
       go_enter Tryz.func94,Tryz.ntmps94
       go_wp2_with (first|(go_at_call 92;(with_reducible refine(HT.out _ ?_).mono ?_);(focus(exact HT4.out.keep (B:=w.heap.size) bT HT4.out.1));rintro e w' ⟨rfl,g,rfl⟩)|(go_at_call 54;(with_reducible refine(HH.out _).mono ?_);rintro e w' ⟨rfl,rfl⟩)|(go_at_call 54;(with_reducible refine(HX.out _).mono ?_);rintro e w' ⟨rfl,rfl⟩)|(go_at_call 92;(with_reducible refine(HU.out _ ?_).mono ?_);(focus(exact HT3.out.keep (B:=w.heap.size) bT HT3.out.1));rintro e w' ⟨rfl,g3,rfl⟩)|(go_at_call 54;(with_reducible refine(HP1.out _).mono ?_);rintro e w' ⟨rfl,rfl⟩)|(go_at_call 143;(with_reducible refine(PU.out _ ?_).mono ?_);(focus(exact HG.out.below bT));rintro e w' ⟨⟨te,pe,rfl⟩,g2,rfl⟩))
       go_region_with (go_at_call 144;refine(ranged_any _ _).mono ?_;rintro e w' ⟨rfl,rfl⟩)
       all_goals go_wp2
       all_goals go_returns
       all_goals (refine⟨?_,more_of_below bT⟩;rw [HV.out];exact⟨_,_,_,_,_,rfl⟩)
     ·rw [hor]at HP1
      rw [hor2]at HP2
      clear hor hor2
      generalize hv:Tk.val 10 D.data.toList=v at *
      by_cases hm:v<2147483648
      ·rw [if_pos hm]at HV
       have PU:=hid (pu3_ok (t:=D) (v:=v) (by omega) (by omega) HD.out hv (by omega))
       have hw1:wrap64 (v:Int)=v:=by unfold wrap64;omega
       clear hv
       go_enter Tryz.func94,Tryz.ntmps94
       go_wp2_with (first|(go_at_call 92;(with_reducible refine(HT.out _ ?_).mono ?_);(focus(exact HT4.out.keep (B:=w.heap.size) bT HT4.out.1));rintro e w' ⟨rfl,g,rfl⟩)|(go_at_call 54;(with_reducible refine(HH.out _).mono ?_);rintro e w' ⟨rfl,rfl⟩)|(go_at_call 54;(with_reducible refine(HX.out _).mono ?_);rintro e w' ⟨rfl,rfl⟩)|(go_at_call 92;(with_reducible refine(HU.out _ ?_).mono ?_);(focus(exact HT3.out.keep (B:=w.heap.size) bT HT3.out.1));rintro e w' ⟨rfl,g3,rfl⟩)|(go_at_call 54;(with_reducible refine(HP1.out _).mono ?_);rintro e w' ⟨rfl,rfl⟩)|(go_at_call 54;(with_reducible refine(HP2.out _).mono ?_);rintro e w' ⟨rfl,rfl⟩)|(go_at_call 143;(with_reducible refine(PU.out _ ?_).mono ?_);(focus(exact HG.out.below bT));rintro e w' ⟨rfl,g2,rfl⟩))
       go_region_with (go_at_call 144;refine(ranged_any _ _).mono ?_;rintro e w' ⟨rfl,rfl⟩)
       all_goals go_wp2
       all_goals go_returns
       all_goals (refine⟨?_,more_of_below bT⟩;rw [HV.out];refine⟨⟨#[]⟩,rfl,?_⟩;first|rfl|(simp only [hw1];rfl))
      ·rw [if_neg hm]at HV
       have PU:=hid (pu3_no (t:=D) (v:=v) (by omega) (by omega) HD.out hv (by omega))
       clear hv
       go_enter Tryz.func94,Tryz.ntmps94
       go_wp2_with (first|(go_at_call 92;(with_reducible refine(HT.out _ ?_).mono ?_);(focus(exact HT4.out.keep (B:=w.heap.size) bT HT4.out.1));rintro e w' ⟨rfl,g,rfl⟩)|(go_at_call 54;(with_reducible refine(HH.out _).mono ?_);rintro e w' ⟨rfl,rfl⟩)|(go_at_call 54;(with_reducible refine(HX.out _).mono ?_);rintro e w' ⟨rfl,rfl⟩)|(go_at_call 92;(with_reducible refine(HU.out _ ?_).mono ?_);(focus(exact HT3.out.keep (B:=w.heap.size) bT HT3.out.1));rintro e w' ⟨rfl,g3,rfl⟩)|(go_at_call 54;(with_reducible refine(HP1.out _).mono ?_);rintro e w' ⟨rfl,rfl⟩)|(go_at_call 54;(with_reducible refine(HP2.out _).mono ?_);rintro e w' ⟨rfl,rfl⟩)|(go_at_call 143;(with_reducible refine(PU.out _ ?_).mono ?_);(focus(exact HG.out.below bT));rintro e w' ⟨⟨te,pe,rfl⟩,g2,rfl⟩))
       go_region_with (go_at_call 144;refine(ranged_any _ _).mono ?_;rintro e w' ⟨rfl,rfl⟩)
       all_goals go_wp2
       all_goals go_returns
       all_goals (refine⟨?_,more_of_below bT⟩;rw [HV.out];exact⟨_,_,_,_,_,rfl⟩)
    ·rw [hdt]at HV
     simp only [Bool.or_true,if_true]at HV
     simp only [Tk.dots,Bool.and_eq_true,bne,Bool.not_eq_true']at hdt
     have HP1:=hid (hp_any (t:=Q) (p:=⟨#[46]⟩) (b:=true) (by rw [Tk.hp_take];exact hdt.1))
     have HP2:=hid (hp_any (t:=Q) (p:=⟨#[46,46]⟩) (b:=false) (by rw [Tk.hp_take];exact hdt.2))
     clear hdt
     go_enter Tryz.func94,Tryz.ntmps94
     go_wp2_with (first|(go_at_call 92;(with_reducible refine(HT.out _ ?_).mono ?_);(focus(exact HT4.out.keep (B:=w.heap.size) bT HT4.out.1));rintro e w' ⟨rfl,g,rfl⟩)|(go_at_call 54;(with_reducible refine(HH.out _).mono ?_);rintro e w' ⟨rfl,rfl⟩)|(go_at_call 54;(with_reducible refine(HX.out _).mono ?_);rintro e w' ⟨rfl,rfl⟩)|(go_at_call 92;(with_reducible refine(HU.out _ ?_).mono ?_);(focus(exact HT3.out.keep (B:=w.heap.size) bT HT3.out.1));rintro e w' ⟨rfl,g3,rfl⟩)|(go_at_call 54;(with_reducible refine(HP1.out _).mono ?_);rintro e w' ⟨rfl,rfl⟩)|(go_at_call 54;(with_reducible refine(HP2.out _).mono ?_);rintro e w' ⟨rfl,rfl⟩))
     go_returns
     all_goals (refine⟨?_,more_of_below bT⟩;rw [HV.out];exact⟨_,_,_,_,_,rfl⟩)
end Go.Proofs.YtlhmkfcbldghfaaGreatDoor
