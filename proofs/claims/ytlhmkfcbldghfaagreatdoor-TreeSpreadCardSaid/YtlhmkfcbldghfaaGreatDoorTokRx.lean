/- The walk of the document's number. Conditions: the text's size is bounded;a digit stands at the place. The walk of the document's one token. Conditions: the text's size is bounded;the place lies in it. The walk of the document's one token: numbers,texts,signs;and all of it. Conditions: the text's size is bounded;the place lies in it. The walk of the document's Lex. Conditions: the text's size is bounded. -/
import Derived.Test.YtlhmkfcbldghfaaGreatDoorTokRa
import Derived.Deep.CutBlock
import Derived.Deep.DeepCutAuto
import Derived.Test.YtlhmkfcbldghfaaGreatDoorMoreX
import Derived.Test.YtlhmkfcbldghfaaGreatDoorTkD
namespace Go.Proofs.YtlhmkfcbldghfaaGreatDoor
set_option linter.all false
open Go.Lib (hid)
set_option maxRecDepth 1000000
set_option maxHeartbeats 16000000
open Go.RowKit
namespace Tk
theorem numT_p (s : ByteArray) {p q : Nat} (hT : ((s.data.toList.drop p).takeWhile hexa).length = q - p) (hpq : p ≤ q) :
  numT (s.data.toList.drop p) =
   if (s.data.toList.drop q).take 1 = [72] then (if val 16 (s.extract p q).data.toList < 4294967296 then .ok (3,[],Sp.sgn (val 16 (s.extract p q).data.toList),q - p + 1) else .error 91)
   else if (s.data.toList.drop q).take 1 = [88] then (if val 16 (s.extract p q).data.toList < 256 then .ok (4,[],val 16 (s.extract p q).data.toList,q - p + 1) else .error 91)
   else if (!(s.extract p q).data.toList.all digit || dots (s.data.toList.drop q)) = true then .error 90
   else if val 10 (s.extract p q).data.toList < 2147483648 then .ok (3,[],val 10 (s.extract p q).data.toList,q - p) else .error 91:=by
 unfold numT
 simp only [hT,List.drop_drop,show p + (q - p) = q by omega]
 rw [tw_extract s hexa hT]
theorem dots_end (s : ByteArray) (q : Nat) (h : ¬ q < s.size) : dots (s.data.toList.drop q) = false:=by
 rw [List.drop_eq_nil_of_le (by simp;omega)];rfl
theorem dots_ne (s : ByteArray) (q : Nat) (h : q < s.size) (hc : ¬ s[q] = 46) : dots (s.data.toList.drop q) = false:=by
 rw [drop_at s q h];simp [dots,hc]
theorem dots_one (s : ByteArray) (q : Nat) (h : q < s.size) (hc : s[q] = 46) (h1 : ¬ q + 1 < s.size) : dots (s.data.toList.drop q) = true:=by
 rw [drop_at s q h,List.drop_eq_nil_of_le (by simp;omega)];simp [dots,hc]
theorem dots_two (s : ByteArray) (q : Nat) (h : q < s.size) (hc : s[q] = 46) (h1 : q + 1 < s.size) : dots (s.data.toList.drop q) = !(s[q + 1] == 46):=by
 rw [drop_at s q h,drop_at s (q + 1) h1];simp [dots,hc]
 cases hb : (s[q + 1] == 46)
 ·simp at hb;simp [hb,bne]
 ·simp at hb;simp [hb,bne]
theorem extract_next (s : ByteArray) (p q : Nat) (hpq : p ≤ q) (hq : q < s.size) : (s.extract p (q + 1)).data.toList = (s.extract p q).data.toList ++ [s[q]]:=by
 rw [extract_list,extract_list,show q + 1 - p = (q - p) + 1 by omega,List.take_succ,List.getElem?_drop,show p + (q - p) = q by omega]
 rw [List.getElem?_eq_getElem (by simpa using hq)];rfl
theorem extract_at (s : ByteArray) (p q j : Nat) (hj : p + j < q) (hq : q ≤ s.size) : (s.extract p q).data.toList.drop j = s[p + j] :: (s.extract p q).data.toList.drop (j + 1):=by
 have hl : (s.extract p q).data.toList.length = q - p:=by rw [extract_list];simp;omega
 rw [List.drop_eq_getElem_cons (by omega)]
 congr 1
 have : (s.extract p q).data.toList[j]? = some s[p + j]:=by
  rw [extract_list,List.getElem?_take,if_pos (by omega),List.getElem?_drop,List.getElem?_eq_getElem (by simp;omega)];rfl
 rw [List.getElem?_eq_getElem (by omega)] at this
 exact Option.some.inj this
end Tk
theorem rnumber_any (s : ByteArray) (p : Nat) (w : World) (hs : s.size < 4294967281) (hp : p < s.size) (hd : Tk.digit s[p] = true) (R : Tk.R) (hR : Tk.numT (s.data.toList.drop p) = R) :
  Calls Tryz.prog 64 #[.string s,.int .i64 p] w fun e w' => Tk.TokRet R p p e ∧ ∃ g,w' = more w g:=by
 have HR:=hid hR
 clear hR hd
 go_enter Tryz.func64,Tryz.ntmps64
 go_upto_block 0 with fail
 go_cut [7,8] (fun s7 s8 wx => (w.alloc (.cells #[.int .i64 0,.string ⟨#[]⟩,.int .i64 0,.int .i64 0] 40)) = wx ∧ ∃ (q : Nat) (d : Bool),p ≤ q ∧ q ≤ s.size ∧ s7 = .int .i64 q ∧ s8 = .bool d ∧ Hid (((s.data.toList.drop p).takeWhile Tk.hexa).length = q - p ∧ d = (s.extract p q).data.toList.all Tk.digit))
 case first =>
  go_wp2_with fail
  go_loop [7,8] (fun s7 s8 => ∃ (q : Nat) (d : Bool),p ≤ q ∧ q ≤ s.size ∧ s7 = .int .i64 q ∧ s8 = .bool d ∧ Hid (((s.data.toList.drop p).takeWhile Tk.hexa).length = (q - p) + ((s.data.toList.drop q).takeWhile Tk.hexa).length ∧ d = (s.extract p q).data.toList.all Tk.digit)) (fun s7 _ => s.size - (intOf s7).toNat)
  case atStart => exact ⟨p,true,by omega,by omega,rfl,rfl,hid ⟨by simp,by rw [Tk.extract_list];simp⟩⟩
  case round =>
   obtain ⟨q,d,hpq,hq,rfl,rfl,H⟩:=hrel
   by_cases hlt : q < s.size
   ·have HX:=hid (rhexa_at (c:=s[q]) (r:=Tk.hexa s[q]) rfl)
    have HDg:=hid (rdigit_at (c:=s[q]) (r:=Tk.digit s[q]) rfl)
    cases hx : Tk.hexa s[q]
    ·have HN:=hid (show ((s.data.toList.drop p).takeWhile Tk.hexa).length = q - p ∧ d = (s.extract p q).data.toList.all Tk.digit from ⟨Tk.tw_out s Tk.hexa hlt hx H.out.1,H.out.2⟩)
     rw [hx] at HX
     clear H hx HDg
     go_wp2_with (go_at_call 107;(with_reducible refine (HX.out _).mono ?_);rintro e w2 ⟨rfl,rfl⟩)
     go_meet
     exact ⟨rfl,q,d,hpq,hq,rfl,rfl,HN⟩
    ·have HN:=hid (show ((s.data.toList.drop p).takeWhile Tk.hexa).length = (q + 1 - p) + ((s.data.toList.drop (q + 1)).takeWhile Tk.hexa).length ∧ (d && Tk.digit s[q]) = (s.extract p (q + 1)).data.toList.all Tk.digit from
      ⟨by have:=Tk.tw_in s Tk.hexa hlt hx H.out.1;omega,by rw [Tk.extract_next s p q hpq hlt,List.all_append,← H.out.2];simp⟩)
     rw [hx] at HX
     clear H hx
     generalize Tk.digit s[q] = dg at *
     cases d
     ·go_wp2_with ((go_at_call 107;(with_reducible refine (HX.out _).mono ?_);rintro e w2 ⟨rfl,rfl⟩))
      refine ⟨⟨q + 1,false,by omega,by omega,by simp,rfl,by simpa using HN⟩,by simp [intOf];omega⟩
     ·go_wp2_with (first | (go_at_call 107;(with_reducible refine (HX.out _).mono ?_);rintro e w2 ⟨rfl,rfl⟩) | (go_at_call 62;(with_reducible refine (HDg.out _).mono ?_);rintro e w2 ⟨rfl,rfl⟩))
      refine ⟨⟨q + 1,dg,by omega,by omega,by simp,rfl,by simpa using HN⟩,by simp [intOf];omega⟩
   ·have HN:=hid (show ((s.data.toList.drop p).takeWhile Tk.hexa).length = q - p ∧ d = (s.extract p q).data.toList.all Tk.digit from ⟨Tk.tw_end s Tk.hexa hlt H.out.1,H.out.2⟩)
    clear H
    go_wp2
    go_meet
    exact ⟨rfl,q,d,hpq,hq,rfl,rfl,HN⟩
 case rest =>
  obtain ⟨rfl,q,d,hpq,hq,rfl,rfl,H⟩:=hcut
  have HV:=hid (HR.out.symm.trans (Tk.numT_p s H.out.1 hpq))
  have HDg:=hid H.out.2
  have HX:=hid (show ∀ c ∈ (s.extract p q).data.toList,Tk.hexa c = true by
   rw [← Tk.tw_extract s Tk.hexa H.out.1]
   intro c hc
   exact List.all_eq_true.1 (List.all_takeWhile (l:=s.data.toList.drop p) (p:=Tk.hexa)) c hc)
  have HAt:=hid (fun j (hj : p + j < q) => Tk.extract_at s p q j hj hq)
  have HLn:=hid (show (s.extract p q).data.toList.length = q - p by rw [Tk.extract_list];simp;omega)
  clear H HR
  generalize (s.extract p q).data.toList = D at *
  go_upto_block 2 with fail
  go_cut [9,11,12] (fun s9 s11 s12 wx =>
   (s9 = .int .i64 16 ∧ s11 = .int .i64 4294967296 ∧ s12 = .int .i64 ((q : Int) + 1) ∧ wx = (w.alloc (.cells #[.int .i64 0,.string ⟨#[]⟩,.int .i64 0,.int .i64 0] 40)).alloc (.cells #[.int .i64 3,.string ⟨#[]⟩,.int .i64 0,.int .i64 p] 40) ∧ q < s.size ∧ Hid (R = if Tk.val 16 D < 4294967296 then .ok (3,[],Sp.sgn (Tk.val 16 D),q - p + 1) else .error 91))
   ∨ (s9 = .int .i64 16 ∧ s11 = .int .i64 256 ∧ s12 = .int .i64 ((q : Int) + 1) ∧ wx = (w.alloc (.cells #[.int .i64 0,.string ⟨#[]⟩,.int .i64 0,.int .i64 0] 40)).alloc (.cells #[.int .i64 4,.string ⟨#[]⟩,.int .i64 0,.int .i64 p] 40) ∧ q < s.size ∧ Hid (R = if Tk.val 16 D < 256 then .ok (4,[],Tk.val 16 D,q - p + 1) else .error 91))
   ∨ (s9 = .int .i64 10 ∧ s11 = .int .i64 2147483648 ∧ s12 = .int .i64 q ∧ wx = (w.alloc (.cells #[.int .i64 0,.string ⟨#[]⟩,.int .i64 0,.int .i64 0] 40)).alloc (.cells #[.int .i64 3,.string ⟨#[]⟩,.int .i64 0,.int .i64 p] 40) ∧ Hid (∀ c ∈ D,Tk.digit c = true) ∧ Hid (R = if Tk.val 10 D < 2147483648 then .ok (3,[],Tk.val 10 D,q - p) else .error 91)))
  case first =>
   by_cases hlt : q < s.size
   ·have HT1:=hid (Tk.take1_at s q hlt)
    have HD1:=hid (Tk.dots_ne s q hlt)
    have HD2:=hid (Tk.dots_one s q hlt)
    have HD3:=hid (Tk.dots_two s q hlt)
    have h256 : s[q].toNat < 256:=UInt8.toNat_lt _
    by_cases h72 : s[q].toNat = 72
    ·have hc : s[q] = 72:=by rw [← UInt8.toNat_inj];exact h72
     have HN:=hid (HV.out.trans (if_pos (by rw [HT1.out,hc])))
     have e72 : ((s[q].toNat : Int) == 72) = true:=by simp;omega
     clear HV hc HD1 HD2 HD3 h72
     go_wp2
     go_meet
     exact .inl ⟨rfl,rfl,rfl,rfl,hlt,HN⟩
    ·have e72 : ((s[q].toNat : Int) == 72) = false:=by simp;omega
     have HV:=hid (HV.out.trans (if_neg (by rw [HT1.out];intro h;simp at h;exact h72 (by rw [h];rfl))))
     by_cases h88 : s[q].toNat = 88
     ·have hc : s[q] = 88:=by rw [← UInt8.toNat_inj];exact h88
      have HN:=hid (HV.out.trans (if_pos (by rw [HT1.out,hc])))
      have e88 : ((s[q].toNat : Int) == 88) = true:=by simp;omega
      clear HV hc HD1 HD2 HD3 h72 h88
      go_wp2
      go_meet
      exact .inr (.inl ⟨rfl,rfl,rfl,rfl,hlt,HN⟩)
     ·have e88 : ((s[q].toNat : Int) == 88) = false:=by simp;omega
      have HV:=hid (HV.out.trans (if_neg (by rw [HT1.out];intro h;simp at h;exact h88 (by rw [h];rfl))))
      rw [← HDg.out] at HV
      cases d
      ·have HN:=hid (HV.out.trans (if_pos (by simp)))
       clear HV HD1 HD2 HD3 h72 h88
       go_wp2
       go_returns
       refine ⟨?_,more_of_below (by repeat' (first | with_reducible (first | exact Below.refl _ _ | refine Below.alloc ?_ ?_ _) | go_size))⟩
       rw [HN.out]
       exact ⟨_,_,_,_,_,rfl⟩
      ·have HAd:=hid (show ∀ c ∈ D,Tk.digit c = true from List.all_eq_true.1 HDg.out.symm)
       by_cases h46 : s[q].toNat = 46
       ·have hc : s[q] = 46:=by rw [← UInt8.toNat_inj];exact h46
        have e46 : ((s[q].toNat : Int) == 46) = true:=by simp;omega
        by_cases hl1 : q + 1 < s.size
        ·have HE:=hid (HD3.out hc hl1)
         have h2 : s[q + 1].toNat < 256:=UInt8.toNat_lt _
         have eq1 : ((q : Int) + 1 == (s.size : Int)) = false:=by simp;omega
         by_cases h46b : s[q + 1].toNat = 46
         ·have hcb : s[q + 1] = 46:=by rw [← UInt8.toNat_inj];exact h46b
          have e46b : ((s[q + 1].toNat : Int) != 46) = false:=by simp;omega
          have HN:=hid (HV.out.trans (if_neg (by rw [HE.out,hcb];simp)))
          clear HV HD1 HD2 HD3 HE h72 h88 h46 hc h46b hcb
          go_wp2
          go_meet
          exact .inr (.inr ⟨rfl,rfl,rfl,rfl,HAd,HN⟩)
         ·have hcb : ¬ s[q + 1] = 46:=fun h => h46b (by rw [h];rfl)
          have e46b : ((s[q + 1].toNat : Int) != 46) = true:=by simp;omega
          have HN:=hid (HV.out.trans (if_pos (by rw [HE.out];simp [hcb])))
          clear HV HD1 HD2 HD3 HE h72 h88 h46 hc h46b hcb
          go_wp2
          go_returns
          refine ⟨?_,more_of_below (by repeat' (first | with_reducible (first | exact Below.refl _ _ | refine Below.alloc ?_ ?_ _) | go_size))⟩
          rw [HN.out]
          exact ⟨_,_,_,_,_,rfl⟩
        ·have HE:=hid (HD2.out hc hl1)
         have HN:=hid (HV.out.trans (if_pos (by rw [HE.out];simp)))
         have eq1 : ((q : Int) + 1 == (s.size : Int)) = true:=by simp;omega
         clear HV HD1 HD2 HD3 HE h72 h88 h46 hc
         go_wp2
         go_returns
         refine ⟨?_,more_of_below (by repeat' (first | with_reducible (first | exact Below.refl _ _ | refine Below.alloc ?_ ?_ _) | go_size))⟩
         rw [HN.out]
         exact ⟨_,_,_,_,_,rfl⟩
       ·have e46 : ((s[q].toNat : Int) == 46) = false:=by simp;omega
        have HE:=hid (HD1.out (fun h => h46 (by rw [h];rfl)))
        have HN:=hid (HV.out.trans (if_neg (by rw [HE.out];simp)))
        clear HV HD1 HD2 HD3 HE h72 h88 h46
        go_wp2
        go_meet
        exact .inr (.inr ⟨rfl,rfl,rfl,rfl,HAd,HN⟩)
   ·have HT1:=hid (Tk.take1_end s q hlt)
    have HE:=hid (Tk.dots_end s q hlt)
    have HV:=hid ((HV.out.trans (if_neg (by rw [HT1.out];simp))).trans (if_neg (by rw [HT1.out];simp)))
    rw [← HDg.out] at HV
    cases d
    ·have HN:=hid (HV.out.trans (if_pos (by simp)))
     clear HV
     go_wp2
     go_returns
     refine ⟨?_,more_of_below (by repeat' (first | with_reducible (first | exact Below.refl _ _ | refine Below.alloc ?_ ?_ _) | go_size))⟩
     rw [HN.out]
     exact ⟨_,_,_,_,_,rfl⟩
    ·have HAd:=hid (show ∀ c ∈ D,Tk.digit c = true from List.all_eq_true.1 HDg.out.symm)
     have HN:=hid (HV.out.trans (if_neg (by rw [HE.out];simp)))
     clear HV HE
     go_wp2
     go_meet
     exact .inr (.inr ⟨rfl,rfl,rfl,rfl,HAd,HN⟩)
  case rest =>
   rcases hcut with ⟨rfl,rfl,rfl,rfl,hlt,HN⟩ | ⟨rfl,rfl,rfl,rfl,hlt,HN⟩ | ⟨rfl,rfl,rfl,rfl,HAd,HN⟩
   ·go_wp2
    go_loop [13,14] (fun sn si => ∃ (j acc : Nat) (a : Int),p + j ≤ q ∧ si = .int .i64 ((p + j : Nat) : Int) ∧ sn = .int .i64 a ∧ 0 ≤ a ∧ a < 68719476752 ∧ Hid (a = (acc : Int) ∧ Tk.val 16 D = Tk.va 16 acc (D.drop j))) (fun _ si => s.size - (intOf si).toNat)
    case atStart => exact ⟨0,0,0,by omega,by simp,rfl,by omega,by omega,hid ⟨rfl,rfl⟩⟩
    case round =>
     obtain ⟨j,acc,a,hj,rfl,rfl,ha0,hacc,H⟩:=hrel
     obtain ⟨ha,hv⟩:=H.out
     clear H
     by_cases hjq : p + j < q
     ·by_cases hlim : a < 4294967296
      ·obtain ⟨i,hi⟩ : ∃ i,i = p + j:=⟨_,rfl⟩
       have his : i < s.size:=by omega
       have hiq : i < q:=by omega
       obtain ⟨c,hc⟩ : ∃ c,s[i] = c:=⟨_,rfl⟩
       have hat : D.drop j = c :: D.drop (j + 1):=by subst hi;rw [← hc];exact HAt.out j hjq
       have hmem : c ∈ D:=by
        have : c ∈ D.drop j:=by rw [hat];simp
        exact List.mem_of_mem_drop this
       rw [← hi]
       have h256 : c.toNat < 256:=c.toNat_lt
       replace hi:=hid hi
       replace hj:=hid hj
       replace hjq:=hid hjq
       rcases Tk.hexa_cases (HX.out c hmem) with ⟨hd0,hd1,hdg⟩ | ⟨hd0,hd1,hdg⟩
       ·have HL:=hid (rletter_at (c:=c) (r:=false) (by simp [Tk.letter];omega))
        have HN2:=hid (show a * 16 + ((c.toNat : Int) - 48) = ((acc * 16 + (c.toNat - 48) : Nat) : Int) ∧ Tk.val 16 D = Tk.va 16 (acc * 16 + (c.toNat - 48)) (D.drop (j + 1)) from ⟨by omega,by rw [hv,hat,Tk.va_cons,hdg]⟩)
        clear hat hmem hdg hv ha
        go_wp2_with (go_at_call 61;(with_reducible refine (HL.out _).mono ?_);rintro e w2 ⟨rfl,rfl⟩)
        go_round
        case measure => simp [intOf];omega
        case rel => exact ⟨j + 1,acc * 16 + (c.toNat - 48),a * 16 + ((c.toNat : Int) - 48),by have:=hjq.out;omega,by have:=hi.out;congr 1;omega,by first | rfl | (congr 1;omega),by omega,by omega,HN2⟩
       ·have HL:=hid (rletter_at (c:=c) (r:=true) (by simp [Tk.letter];omega))
        have HN2:=hid (show a * 16 + ((c.toNat : Int) - 55) = ((acc * 16 + (c.toNat - 55) : Nat) : Int) ∧ Tk.val 16 D = Tk.va 16 (acc * 16 + (c.toNat - 55)) (D.drop (j + 1)) from ⟨by omega,by rw [hv,hat,Tk.va_cons,hdg]⟩)
        clear hat hmem hdg hv ha
        go_wp2_with (go_at_call 61;(with_reducible refine (HL.out _).mono ?_);rintro e w2 ⟨rfl,rfl⟩)
        go_round
        case measure => simp [intOf];omega
        case rel => exact ⟨j + 1,acc * 16 + (c.toNat - 55),a * 16 + ((c.toNat : Int) - 55),by have:=hjq.out;omega,by have:=hi.out;congr 1;omega,by first | rfl | (congr 1;omega),by omega,by omega,HN2⟩
      ·have HF:=hid (show R = .error 91 by
        have:=Tk.va_ge 16 (by decide) (D.drop j) acc
        rw [HN.out,if_neg (by rw [hv];omega)])
       obtain ⟨i,hi⟩ : ∃ i,i = p + j:=⟨_,rfl⟩
       have hiq : i < q:=by omega
       rw [← hi]
       have hl2 : (4294967296 : Int) ≤ a:=by omega
       clear HN ha hv hi hj hjq hlim
       go_wp2
       go_returns
       refine ⟨?_,more_of_below (by repeat' (first | with_reducible (first | exact Below.refl _ _ | refine Below.alloc ?_ ?_ _) | go_size))⟩
       rw [HF.out]
       exact ⟨_,_,_,_,_,rfl⟩
     ·have hje : j = q - p:=by omega
      have HVv:=hid (show Tk.val 16 D = acc by rw [hv,List.drop_eq_nil_of_le (by rw [HLn.out];omega)];rfl)
      have hpq2 : p + j = q:=by omega
      rw [hpq2]
      clear hje hpq2 hjq hj
      by_cases hlim : a < 4294967296
      ·by_cases hbig : (2147483648 : Int) ≤ a
       ·have hsg : Sp.sgn a = a - 4294967296:=by unfold Sp.sgn;rw [if_pos hbig]
        have HF:=hid (show R = .ok (3,[],a - 4294967296,q - p + 1) by rw [HN.out,HVv.out,if_pos (by omega)];rw [← ha];rw [hsg])
        clear HN ha hv HVv hsg
        go_wp2
        go_returns
        refine ⟨?_,more_of_below (by repeat' (first | with_reducible (first | exact Below.refl _ _ | refine Below.alloc ?_ ?_ _) | go_size))⟩
        rw [HF.out]
        refine ⟨⟨#[]⟩,rfl,?_⟩
        have hnx : ((q - p + 1 + p : Nat) : Int) = (q : Int) + 1:=by omega
        rw [hnx]
        rfl
       ·have hb2 : a < 2147483648:=by omega
        have hsg : Sp.sgn a = a:=by unfold Sp.sgn;rw [if_neg (by omega)]
        have HF:=hid (show R = .ok (3,[],a,q - p + 1) by rw [HN.out,HVv.out,if_pos (by omega)];rw [← ha];rw [hsg])
        clear HN ha hv HVv hsg hbig
        go_wp2
        go_returns
        refine ⟨?_,more_of_below (by repeat' (first | with_reducible (first | exact Below.refl _ _ | refine Below.alloc ?_ ?_ _) | go_size))⟩
        rw [HF.out]
        refine ⟨⟨#[]⟩,rfl,?_⟩
        have hnx : ((q - p + 1 + p : Nat) : Int) = (q : Int) + 1:=by omega
        rw [hnx]
        rfl
      ·have HF:=hid (show R = .error 91 by rw [HN.out,HVv.out,if_neg (by omega)])
       have hl2 : (4294967296 : Int) ≤ a:=by omega
       clear HN ha hv HVv hlim
       go_wp2
       go_returns
       refine ⟨?_,more_of_below (by repeat' (first | with_reducible (first | exact Below.refl _ _ | refine Below.alloc ?_ ?_ _) | go_size))⟩
       rw [HF.out]
       exact ⟨_,_,_,_,_,rfl⟩
   ·go_wp2
    go_loop [13,14] (fun sn si => ∃ (j acc : Nat) (a : Int),p + j ≤ q ∧ si = .int .i64 ((p + j : Nat) : Int) ∧ sn = .int .i64 a ∧ 0 ≤ a ∧ a < 4112 ∧ Hid (a = (acc : Int) ∧ Tk.val 16 D = Tk.va 16 acc (D.drop j))) (fun _ si => s.size - (intOf si).toNat)
    case atStart => exact ⟨0,0,0,by omega,by simp,rfl,by omega,by omega,hid ⟨rfl,rfl⟩⟩
    case round =>
     obtain ⟨j,acc,a,hj,rfl,rfl,ha0,hacc,H⟩:=hrel
     obtain ⟨ha,hv⟩:=H.out
     clear H
     by_cases hjq : p + j < q
     ·by_cases hlim : a < 256
      ·obtain ⟨i,hi⟩ : ∃ i,i = p + j:=⟨_,rfl⟩
       have his : i < s.size:=by omega
       have hiq : i < q:=by omega
       obtain ⟨c,hc⟩ : ∃ c,s[i] = c:=⟨_,rfl⟩
       have hat : D.drop j = c :: D.drop (j + 1):=by subst hi;rw [← hc];exact HAt.out j hjq
       have hmem : c ∈ D:=by
        have : c ∈ D.drop j:=by rw [hat];simp
        exact List.mem_of_mem_drop this
       rw [← hi]
       have h256 : c.toNat < 256:=c.toNat_lt
       replace hi:=hid hi
       replace hj:=hid hj
       replace hjq:=hid hjq
       rcases Tk.hexa_cases (HX.out c hmem) with ⟨hd0,hd1,hdg⟩ | ⟨hd0,hd1,hdg⟩
       ·have HL:=hid (rletter_at (c:=c) (r:=false) (by simp [Tk.letter];omega))
        have HN2:=hid (show a * 16 + ((c.toNat : Int) - 48) = ((acc * 16 + (c.toNat - 48) : Nat) : Int) ∧ Tk.val 16 D = Tk.va 16 (acc * 16 + (c.toNat - 48)) (D.drop (j + 1)) from ⟨by omega,by rw [hv,hat,Tk.va_cons,hdg]⟩)
        clear hat hmem hdg hv ha
        go_wp2_with (go_at_call 61;(with_reducible refine (HL.out _).mono ?_);rintro e w2 ⟨rfl,rfl⟩)
        go_round
        case measure => simp [intOf];omega
        case rel => exact ⟨j + 1,acc * 16 + (c.toNat - 48),a * 16 + ((c.toNat : Int) - 48),by have:=hjq.out;omega,by have:=hi.out;congr 1;omega,by first | rfl | (congr 1;omega),by omega,by omega,HN2⟩
       ·have HL:=hid (rletter_at (c:=c) (r:=true) (by simp [Tk.letter];omega))
        have HN2:=hid (show a * 16 + ((c.toNat : Int) - 55) = ((acc * 16 + (c.toNat - 55) : Nat) : Int) ∧ Tk.val 16 D = Tk.va 16 (acc * 16 + (c.toNat - 55)) (D.drop (j + 1)) from ⟨by omega,by rw [hv,hat,Tk.va_cons,hdg]⟩)
        clear hat hmem hdg hv ha
        go_wp2_with (go_at_call 61;(with_reducible refine (HL.out _).mono ?_);rintro e w2 ⟨rfl,rfl⟩)
        go_round
        case measure => simp [intOf];omega
        case rel => exact ⟨j + 1,acc * 16 + (c.toNat - 55),a * 16 + ((c.toNat : Int) - 55),by have:=hjq.out;omega,by have:=hi.out;congr 1;omega,by first | rfl | (congr 1;omega),by omega,by omega,HN2⟩
      ·have HF:=hid (show R = .error 91 by
        have:=Tk.va_ge 16 (by decide) (D.drop j) acc
        rw [HN.out,if_neg (by rw [hv];omega)])
       obtain ⟨i,hi⟩ : ∃ i,i = p + j:=⟨_,rfl⟩
       have hiq : i < q:=by omega
       rw [← hi]
       have hl2 : (256 : Int) ≤ a:=by omega
       clear HN ha hv hi hj hjq hlim
       go_wp2
       go_returns
       refine ⟨?_,more_of_below (by repeat' (first | with_reducible (first | exact Below.refl _ _ | refine Below.alloc ?_ ?_ _) | go_size))⟩
       rw [HF.out]
       exact ⟨_,_,_,_,_,rfl⟩
     ·have hje : j = q - p:=by omega
      have HVv:=hid (show Tk.val 16 D = acc by rw [hv,List.drop_eq_nil_of_le (by rw [HLn.out];omega)];rfl)
      have hpq2 : p + j = q:=by omega
      rw [hpq2]
      clear hje hpq2 hjq hj
      by_cases hlim : a < 256
      ·have hb2 : a < 2147483648:=by omega
       have HF:=hid (show R = .ok (4,[],a,q - p + 1) by rw [HN.out,HVv.out,if_pos (by omega)];rw [← ha])
       clear HN ha hv HVv 
       go_wp2
       go_returns
       refine ⟨?_,more_of_below (by repeat' (first | with_reducible (first | exact Below.refl _ _ | refine Below.alloc ?_ ?_ _) | go_size))⟩
       rw [HF.out]
       refine ⟨⟨#[]⟩,rfl,?_⟩
       have hnx : ((q - p + 1 + p : Nat) : Int) = (q : Int) + 1:=by omega
       rw [hnx]
       rfl
      ·have HF:=hid (show R = .error 91 by rw [HN.out,HVv.out,if_neg (by omega)])
       have hl2 : (256 : Int) ≤ a:=by omega
       clear HN ha hv HVv hlim
       go_wp2
       go_returns
       refine ⟨?_,more_of_below (by repeat' (first | with_reducible (first | exact Below.refl _ _ | refine Below.alloc ?_ ?_ _) | go_size))⟩
       rw [HF.out]
       exact ⟨_,_,_,_,_,rfl⟩
   ·go_wp2
    go_loop [13,14] (fun sn si => ∃ (j acc : Nat) (a : Int),p + j ≤ q ∧ si = .int .i64 ((p + j : Nat) : Int) ∧ sn = .int .i64 a ∧ 0 ≤ a ∧ a < 21474836490 ∧ Hid (a = (acc : Int) ∧ Tk.val 10 D = Tk.va 10 acc (D.drop j))) (fun _ si => s.size - (intOf si).toNat)
    case atStart => exact ⟨0,0,0,by omega,by simp,rfl,by omega,by omega,hid ⟨rfl,rfl⟩⟩
    case round =>
     obtain ⟨j,acc,a,hj,rfl,rfl,ha0,hacc,H⟩:=hrel
     obtain ⟨ha,hv⟩:=H.out
     clear H
     by_cases hjq : p + j < q
     ·by_cases hlim : a < 2147483648
      ·obtain ⟨i,hi⟩ : ∃ i,i = p + j:=⟨_,rfl⟩
       have his : i < s.size:=by omega
       have hiq : i < q:=by omega
       obtain ⟨c,hc⟩ : ∃ c,s[i] = c:=⟨_,rfl⟩
       have hat : D.drop j = c :: D.drop (j + 1):=by subst hi;rw [← hc];exact HAt.out j hjq
       have hmem : c ∈ D:=by
        have : c ∈ D.drop j:=by rw [hat];simp
        exact List.mem_of_mem_drop this
       rw [← hi]
       have h256 : c.toNat < 256:=c.toNat_lt
       replace hi:=hid hi
       replace hj:=hid hj
       replace hjq:=hid hjq
       obtain ⟨hd0,hd1,hdg⟩:=Tk.digit_cases (HAd.out c hmem)
       have HL:=hid (rletter_at (c:=c) (r:=false) (by simp [Tk.letter];omega))
       have HN2:=hid (show a * 10 + ((c.toNat : Int) - 48) = ((acc * 10 + (c.toNat - 48) : Nat) : Int) ∧ Tk.val 10 D = Tk.va 10 (acc * 10 + (c.toNat - 48)) (D.drop (j + 1)) from ⟨by omega,by rw [hv,hat,Tk.va_cons,hdg]⟩)
       clear hat hmem hdg hv ha
       go_wp2_with (go_at_call 61;(with_reducible refine (HL.out _).mono ?_);rintro e w2 ⟨rfl,rfl⟩)
       go_round
       case measure => simp [intOf];omega
       case rel => exact ⟨j + 1,acc * 10 + (c.toNat - 48),a * 10 + ((c.toNat : Int) - 48),by have:=hjq.out;omega,by have:=hi.out;congr 1;omega,by first | rfl | (congr 1;omega),by omega,by omega,HN2⟩
      ·have HF:=hid (show R = .error 91 by
        have:=Tk.va_ge 10 (by decide) (D.drop j) acc
        rw [HN.out,if_neg (by rw [hv];omega)])
       obtain ⟨i,hi⟩ : ∃ i,i = p + j:=⟨_,rfl⟩
       have hiq : i < q:=by omega
       rw [← hi]
       have hl2 : (2147483648 : Int) ≤ a:=by omega
       clear HN ha hv hi hj hjq hlim
       go_wp2
       go_returns
       refine ⟨?_,more_of_below (by repeat' (first | with_reducible (first | exact Below.refl _ _ | refine Below.alloc ?_ ?_ _) | go_size))⟩
       rw [HF.out]
       exact ⟨_,_,_,_,_,rfl⟩
     ·have hje : j = q - p:=by omega
      have HVv:=hid (show Tk.val 10 D = acc by rw [hv,List.drop_eq_nil_of_le (by rw [HLn.out];omega)];rfl)
      have hpq2 : p + j = q:=by omega
      rw [hpq2]
      clear hje hpq2 hjq hj
      by_cases hlim : a < 2147483648
      ·have hb2 : a < 2147483648:=by omega
       have HF:=hid (show R = .ok (3,[],a,q - p) by rw [HN.out,HVv.out,if_pos (by omega)];rw [← ha])
       clear HN ha hv HVv 
       go_wp2
       go_returns
       refine ⟨?_,more_of_below (by repeat' (first | with_reducible (first | exact Below.refl _ _ | refine Below.alloc ?_ ?_ _) | go_size))⟩
       rw [HF.out]
       refine ⟨⟨#[]⟩,rfl,?_⟩
       have hnx : ((q - p + p : Nat) : Int) = (q : Int):=by omega
       rw [hnx]
       rfl
      ·have HF:=hid (show R = .error 91 by rw [HN.out,HVv.out,if_neg (by omega)])
       have hl2 : (2147483648 : Int) ≤ a:=by omega
       clear HN ha hv HVv hlim
       go_wp2
       go_returns
       refine ⟨?_,more_of_below (by repeat' (first | with_reducible (first | exact Below.refl _ _ | refine Below.alloc ?_ ?_ _) | go_size))⟩
       rw [HF.out]
       exact ⟨_,_,_,_,_,rfl⟩
namespace Tk
theorem tokF_p (s : ByteArray) (p : Nat) (h : p < s.size) : tokF (s.data.toList.drop p) = if letter s[p] = true then wordT (s.data.toList.drop p) else if digit s[p] = true then numT (s.data.toList.drop p) else if s[p] = 34 then textT (s.data.toList.drop (p + 1)) else signT (s.data.toList.drop p):=by
 rw [drop_at s p h]
 simp only [tokF]
theorem sgs_two {l : List UInt8} (h : l.length = 2) : l ∈ sgs ↔ l ∈ signs2:=by
 unfold sgs
 rw [List.mem_append]
 constructor
 ·rintro (h1 | h1)
  ·exact h1
  ·obtain ⟨c,_,rfl⟩:=List.mem_map.1 h1
   simp at h
 ·exact fun h1 => .inl h1
theorem sgs_one (c : UInt8) : [c] ∈ sgs ↔ c ∈ signs1:=by
 unfold sgs
 rw [List.mem_append]
 constructor
 ·rintro (h1 | h1)
  ·simp [signs2] at h1
  ·obtain ⟨d,hd,he⟩:=List.mem_map.1 h1
   simp at he;subst he;exact hd
 ·exact fun h1 => .inr (List.mem_map.2 ⟨c,h1,rfl⟩)
theorem signs2_len {l : List UInt8} (h : l ∈ signs2) : l.length = 2:=by
 simp only [signs2,List.mem_cons,List.not_mem_nil,or_false] at h
 rcases h with e | e | e | e <;> rw [e] <;> rfl
end Tk
theorem rKey_at {t : ByteArray} {r : Bool} (h : decide (t.data.toList ∈ Tk.keys) = r) (w : World) : Calls Tryz.prog 63 #[.string t] w fun e w' => e = .returned (.bool r) ∧ ∃ g,w' = more w g:=by subst h;exact rKey_any t w
theorem rSign_at {t : ByteArray} {r : Bool} (h : decide (t.data.toList ∈ Tk.sgs) = r) (w : World) : Calls Tryz.prog 65 #[.string t] w fun e w' => e = .returned (.bool r) ∧ ∃ g,w' = more w g:=by subst h;exact rSign_any t w
theorem rone_word (s : ByteArray) (p : Nat) (w : World) (hs : s.size < 4294967281) (hp : p < s.size) (hc : Tk.letter s[p] = true) (R : Tk.R) (hR : Tk.wordT (s.data.toList.drop p) = R) :
  Calls Tryz.prog 28 #[.string s,.int .i64 p] w fun e w' => Tk.TokRet R p p e ∧ ∃ g,w' = more w g:=by
 have HL:=hid (rletter_at hc)
 have HR:=hid hR
 clear hR hc
 go_enter Tryz.func28,Tryz.ntmps28
 go_upto_block 1 with (go_at_call 61;(with_reducible refine (HL.out _).mono ?_);rintro e w2 ⟨rfl,rfl⟩)
 go_cut [8] (fun s8 wx => (w.alloc (.cells #[.int .i64 0,.string ⟨#[]⟩,.int .i64 0,.int .i64 0] 40)) = wx ∧ ∃ q : Nat,p ≤ q ∧ q ≤ s.size ∧ s8 = .int .i64 q ∧ Hid (((s.data.toList.drop p).takeWhile Tk.inside).length = q - p))
 case first =>
  go_wp2_with fail
  go_loop [8] (fun s8 => ∃ q : Nat,p ≤ q ∧ q ≤ s.size ∧ s8 = .int .i64 q ∧ Hid (((s.data.toList.drop p).takeWhile Tk.inside).length = (q - p) + ((s.data.toList.drop q).takeWhile Tk.inside).length)) (fun s8 => s.size - (intOf s8).toNat)
  case atStart => exact ⟨p,by omega,by omega,rfl,hid (by simp)⟩
  case round =>
   obtain ⟨q,hpq,hq,rfl,H⟩:=hrel
   by_cases hlt : q < s.size
   ·have HX:=hid (rletter_at (c:=s[q]) (r:=Tk.letter s[q]) rfl)
    have HDg:=hid (rdigit_at (c:=s[q]) (r:=Tk.digit s[q]) rfl)
    have HI:=hid (show Tk.inside s[q] = (Tk.letter s[q] || Tk.digit s[q]) from rfl)
    have HT:=hid (fun h => Tk.tw_out s Tk.inside hlt h H.out)
    have HN:=hid (fun h => Tk.tw_in s Tk.inside hlt h H.out)
    clear H
    cases hx : Tk.letter s[q]
    ·rw [hx] at HX HI
     cases hy : Tk.digit s[q]
     ·rw [hy] at HDg HI
      have HE:=hid (HT.out HI.out)
      clear hx hy HT HN HI
      go_wp2_with (first | (go_at_call 61;(with_reducible refine (HX.out _).mono ?_);rintro e w2 ⟨rfl,rfl⟩) | (go_at_call 62;(with_reducible refine (HDg.out _).mono ?_);rintro e w2 ⟨rfl,rfl⟩))
      go_meet
      exact ⟨rfl,q,hpq,hq,rfl,HE⟩
     ·rw [hy] at HDg HI
      have HE:=hid (show ((s.data.toList.drop p).takeWhile Tk.inside).length = (q + 1 - p) + ((s.data.toList.drop (q + 1)).takeWhile Tk.inside).length by have:=HN.out HI.out;omega)
      clear hx hy HT HN HI
      go_wp2_with (first | (go_at_call 61;(with_reducible refine (HX.out _).mono ?_);rintro e w2 ⟨rfl,rfl⟩) | (go_at_call 62;(with_reducible refine (HDg.out _).mono ?_);rintro e w2 ⟨rfl,rfl⟩))
      refine ⟨⟨q + 1,by omega,by omega,by simp,HE⟩,by simp [intOf];omega⟩
    ·rw [hx] at HX HI
     have HE:=hid (show ((s.data.toList.drop p).takeWhile Tk.inside).length = (q + 1 - p) + ((s.data.toList.drop (q + 1)).takeWhile Tk.inside).length by have:=HN.out HI.out;omega)
     clear hx HT HN HI HDg
     go_wp2_with (go_at_call 61;(with_reducible refine (HX.out _).mono ?_);rintro e w2 ⟨rfl,rfl⟩)
     refine ⟨⟨q + 1,by omega,by omega,by simp,HE⟩,by simp [intOf];omega⟩
   ·have HE:=hid (Tk.tw_end s Tk.inside hlt H.out)
    clear H
    go_wp2
    go_meet
    exact ⟨rfl,q,hpq,hq,rfl,HE⟩
 case rest =>
  obtain ⟨rfl,q,hpq,hq,rfl,H⟩:=hcut
  have HV:=hid (HR.out.symm.trans (Tk.wordT_at s H.out))
  clear H HR
  have hnx : ((q - p + p : Nat) : Int) = q:=by omega
  generalize hD : s.extract p q = D at *
  by_cases hk : D.data.toList ∈ Tk.keys
  ·have HN:=hid (HV.out.trans (if_pos hk))
   have HK:=hid (rKey_at (t:=D) (r:=true) (by simp [hk]))
   clear hk HV
   go_wp2_with (go_at_call 63;(with_reducible refine (HK.out _).mono ?_);rintro e w2 ⟨rfl,g,rfl⟩)
   go_returns
   refine ⟨?_,more_of_below (by repeat' (first | with_reducible (first | exact Below.refl _ _ | refine below_more ?_ ?_ _ | refine Below.alloc ?_ ?_ _) | go_size))⟩
   rw [HN.out]
   exact ⟨D,rfl,by rw [hnx];rfl⟩
  ·have HV:=hid (HV.out.trans (if_neg hk))
   have HK:=hid (rKey_at (t:=D) (r:=false) (by simp [hk]))
   by_cases hl : 24 < q - p
   ·have HN:=hid (HV.out.trans (if_pos hl))
    have hl2 : (24 : Int) < (q : Int) - p:=by omega
    clear hk HV hl
    go_wp2_with (go_at_call 63;(with_reducible refine (HK.out _).mono ?_);rintro e w2 ⟨rfl,g,rfl⟩)
    go_returns
    refine ⟨?_,more_of_below (by repeat' (first | with_reducible (first | exact Below.refl _ _ | refine below_more ?_ ?_ _ | refine Below.alloc ?_ ?_ _) | go_size))⟩
    rw [HN.out]
    exact ⟨_,_,_,_,_,rfl⟩
   ·have HN:=hid (HV.out.trans (if_neg hl))
    have hl2 : (q : Int) - p ≤ 24:=by omega
    clear hk HV hl
    go_wp2_with (go_at_call 63;(with_reducible refine (HK.out _).mono ?_);rintro e w2 ⟨rfl,g,rfl⟩)
    go_returns
    refine ⟨?_,more_of_below (by repeat' (first | with_reducible (first | exact Below.refl _ _ | refine below_more ?_ ?_ _ | refine Below.alloc ?_ ?_ _) | go_size))⟩
    rw [HN.out]
    exact ⟨D,rfl,by rw [hnx];rfl⟩
theorem rone_number (s : ByteArray) (p : Nat) (w : World) (hs : s.size < 4294967281) (hp : p < s.size) (hc : Tk.letter s[p] = false) (hd : Tk.digit s[p] = true) (R : Tk.R) (hR : Tk.numT (s.data.toList.drop p) = R) :
  Calls Tryz.prog 28 #[.string s,.int .i64 p] w fun e w' => Tk.TokRet R p p e ∧ ∃ g,w' = more w g:=by
 have HL:=hid (rletter_at hc)
 have HD:=hid (rdigit_at hd)
 have HN:=hid (fun W => rnumber_any s p W hs hp hd R hR)
 clear hR hc hd
 go_enter Tryz.func28,Tryz.ntmps28
 go_wp2_with (first | (go_at_call 61;(with_reducible refine (HL.out _).mono ?_);rintro e w2 ⟨rfl,rfl⟩) | (go_at_call 62;(with_reducible refine (HD.out _).mono ?_);rintro e w2 ⟨rfl,rfl⟩) | (go_at_call 64;(with_reducible refine (HN.out _).mono ?_);rintro e w' ⟨hret,g,rfl⟩;obtain ⟨f,t,n,a',m,c,rfl⟩:=Tk.ret_form hret))
 go_returns
 exact ⟨hret,more_of_below (by repeat' (first | with_reducible (first | exact Below.refl _ _ | assumption | refine below_more ?_ ?_ _ | refine below_drewN ?_ _ | refine Below.drew ?_ | refine Below.alloc ?_ ?_ _ | refine Below.setCell ?_ ?_ _) | go_size | (simp [more_size];done) | (simp [more_size];omega)))⟩
theorem rone_text (s : ByteArray) (p : Nat) (w : World) (hs : s.size < 4294967281) (hp : p < s.size) (hc : Tk.letter s[p] = false) (hd : Tk.digit s[p] = false) (hq34 : s[p] = 34) (R : Tk.R) (hR : Tk.textT (s.data.toList.drop (p + 1)) = R) :
  Calls Tryz.prog 28 #[.string s,.int .i64 p] w fun e w' => Tk.TokRet R p p e ∧ ∃ g,w' = more w g:=by
 have HL:=hid (rletter_at hc)
 have HD:=hid (rdigit_at hd)
 have HR:=hid hR
 have e34 : ((s[p].toNat : Int) == 34) = true:=by rw [hq34];rfl
 clear hR hc hd hq34
 go_enter Tryz.func28,Tryz.ntmps28
 go_upto_block 3 with (first | (go_at_call 61;(with_reducible refine (HL.out _).mono ?_);rintro e w2 ⟨rfl,rfl⟩) | (go_at_call 62;(with_reducible refine (HD.out _).mono ?_);rintro e w2 ⟨rfl,rfl⟩))
 go_cut [10] (fun s8 wx => (w.alloc (.cells #[.int .i64 0,.string ⟨#[]⟩,.int .i64 0,.int .i64 0] 40)) = wx ∧ ∃ q : Nat,p + 1 ≤ q ∧ q ≤ s.size ∧ s8 = .int .i64 q ∧ Hid (((s.data.toList.drop (p + 1)).takeWhile Tk.plain).length = q - (p + 1)))
 case first =>
  go_wp2_with fail
  go_loop [10] (fun s8 => ∃ q : Nat,p + 1 ≤ q ∧ q ≤ s.size ∧ s8 = .int .i64 q ∧ Hid (((s.data.toList.drop (p + 1)).takeWhile Tk.plain).length = (q - (p + 1)) + ((s.data.toList.drop q).takeWhile Tk.plain).length)) (fun s8 => s.size - (intOf s8).toNat)
  case atStart => exact ⟨p + 1,by omega,by omega,by simp,hid (by simp)⟩
  case round =>
   obtain ⟨q,hpq,hq,rfl,H⟩:=hrel
   by_cases hlt : q < s.size
   ·have HT:=hid (fun h => Tk.tw_out s Tk.plain hlt h H.out)
    have HN:=hid (fun h => Tk.tw_in s Tk.plain hlt h H.out)
    clear H
    generalize hc : s[q] = c at *
    have hb : c.toNat < 256:=c.toNat_lt
    by_cases h32 : 32 ≤ c.toNat
    ·have e2 : (32 : Int) ≤ (c.toNat : Int):=by omega
     by_cases h34 : c.toNat = 34
     ·have e1 : ((c.toNat : Int) != 34) = false:=by simp;omega
      have hc34 : c = 34:=by rw [← UInt8.toNat_inj];exact h34
      have HE:=hid (HT.out (by rw [hc34];rfl))
      clear HT HN h34 hc34
      go_wp2
      go_meet
      exact ⟨rfl,q,hpq,hq,rfl,HE⟩
     ·have e1 : ((c.toNat : Int) != 34) = true:=by simp;omega
      have HE:=hid (show ((s.data.toList.drop (p + 1)).takeWhile Tk.plain).length = (q + 1 - (p + 1)) + ((s.data.toList.drop (q + 1)).takeWhile Tk.plain).length by
       have:=HN.out (by simp [Tk.plain,h32];intro h;exact h34 (by rw [h];rfl));omega)
      clear HT HN
      go_wp2
      refine ⟨⟨q + 1,by omega,by omega,by simp,HE⟩,by simp [intOf];omega⟩
    ·have e2 : (c.toNat : Int) < 32:=by omega
     have HE:=hid (HT.out (by simp [Tk.plain];omega))
     clear HT HN h32
     go_wp2
     go_meet
     exact ⟨rfl,q,hpq,hq,rfl,HE⟩
   ·have HE:=hid (Tk.tw_end s Tk.plain hlt H.out)
    clear H
    go_wp2
    go_meet
    exact ⟨rfl,q,hpq,hq,rfl,HE⟩
 case rest =>
  obtain ⟨rfl,q,hpq,hq,rfl,H⟩:=hcut
  have HV:=hid (HR.out.symm.trans (Tk.textT_at s H.out hpq))
  clear H HR
  by_cases hlt : q < s.size
  ·have HT1:=hid (Tk.take1_at s q hlt)
   have hb : s[q].toNat < 256:=UInt8.toNat_lt _
   by_cases h34 : s[q].toNat = 34
   ·have hc34 : s[q] = 34:=by rw [← UInt8.toNat_inj];exact h34
    have e1 : ((s[q].toNat : Int) != 34) = false:=by simp;omega
    have HV:=hid (HV.out.trans (if_pos (by rw [HT1.out,hc34])))
    have e0 : ((q : Int) == (s.size : Int)) = false:=by simp;omega
    clear HT1 hc34 h34
    by_cases hl : 64 < q - (p + 1)
    ·have HN:=hid (HV.out.trans (if_pos hl))
     have hl2 : (64 : Int) < (q : Int) - p - 1:=by omega
     clear HV hl
     go_wp2
     go_returns
     refine ⟨?_,more_of_below (by repeat' (first | with_reducible (first | exact Below.refl _ _ | assumption | refine below_more ?_ ?_ _ | refine below_drewN ?_ _ | refine Below.drew ?_ | refine Below.alloc ?_ ?_ _ | refine Below.setCell ?_ ?_ _) | go_size | (simp [more_size];done) | (simp [more_size];omega)))⟩
     rw [HN.out]
     exact ⟨_,_,_,_,_,rfl⟩
    ·have HN:=hid (HV.out.trans (if_neg hl))
     have hl2 : (q : Int) - p - 1 ≤ 64:=by omega
     have hnx : ((q - (p + 1) + 2 + p : Nat) : Int) = (q : Int) + 1:=by omega
     clear HV hl
     go_wp2
     go_returns
     refine ⟨?_,more_of_below (by repeat' (first | with_reducible (first | exact Below.refl _ _ | assumption | refine below_more ?_ ?_ _ | refine below_drewN ?_ _ | refine Below.drew ?_ | refine Below.alloc ?_ ?_ _ | refine Below.setCell ?_ ?_ _) | go_size | (simp [more_size];done) | (simp [more_size];omega)))⟩
     rw [HN.out]
     exact ⟨s.extract (p + 1) q,rfl,by rw [hnx];rfl⟩
   ·have e1 : ((s[q].toNat : Int) != 34) = true:=by simp;omega
    have e0 : ((q : Int) == (s.size : Int)) = false:=by simp;omega
    have HN:=hid (HV.out.trans (if_neg (by rw [HT1.out];intro h;simp at h;exact h34 (by rw [h];rfl))))
    clear HT1 HV h34
    go_wp2
    go_returns
    refine ⟨?_,more_of_below (by repeat' (first | with_reducible (first | exact Below.refl _ _ | assumption | refine below_more ?_ ?_ _ | refine below_drewN ?_ _ | refine Below.drew ?_ | refine Below.alloc ?_ ?_ _ | refine Below.setCell ?_ ?_ _) | go_size | (simp [more_size];done) | (simp [more_size];omega)))⟩
    rw [HN.out]
    exact ⟨_,_,_,_,_,rfl⟩
  ·have HT1:=hid (Tk.take1_end s q hlt)
   have HN:=hid (HV.out.trans (if_neg (by rw [HT1.out];simp)))
   have e0 : ((q : Int) == (s.size : Int)) = true:=by simp;omega
   clear HT1 HV
   go_wp2
   go_returns
   refine ⟨?_,more_of_below (by repeat' (first | with_reducible (first | exact Below.refl _ _ | assumption | refine below_more ?_ ?_ _ | refine below_drewN ?_ _ | refine Below.drew ?_ | refine Below.alloc ?_ ?_ _ | refine Below.setCell ?_ ?_ _) | go_size | (simp [more_size];done) | (simp [more_size];omega)))⟩
   rw [HN.out]
   exact ⟨_,_,_,_,_,rfl⟩
theorem rone_sign (s : ByteArray) (p : Nat) (w : World) (hs : s.size < 4294967281) (hp : p < s.size) (hc : Tk.letter s[p] = false) (hd : Tk.digit s[p] = false) (hq34 : ¬ s[p] = 34) (R : Tk.R) (hR : Tk.signT (s.data.toList.drop p) = R) :
  Calls Tryz.prog 28 #[.string s,.int .i64 p] w fun e w' => Tk.TokRet R p p e ∧ ∃ g,w' = more w g:=by
 have HL:=hid (rletter_at hc)
 have HD:=hid (rdigit_at hd)
 have hq' : ¬ s[p].toNat = 34:=fun h => hq34 (by rw [← UInt8.toNat_inj];exact h)
 have e34 : ((s[p].toNat : Int) == 34) = false:=by simp;omega
 have hx1 : (s.extract p (p + 1)).data.toList = [s[p]]:=by rw [Tk.extract_list,show p + 1 - p = 1 by omega,Tk.take1_at s p hp]
 have hV1 : Tk.signT (s.data.toList.drop p) = if (s.data.toList.drop p).take 2 ∈ Tk.signs2 then .ok (6,(s.data.toList.drop p).take 2,0,2) else if s[p] ∈ Tk.signs1 then .ok (6,[s[p]],0,1) else .error 90:=by
  rw [Tk.drop_at s p hp];rfl
 have HV:=hid (hR.symm.trans hV1)
 have HX1:=hid hx1
 clear hR hc hd hq34 hq' hV1 hx1
 by_cases h2 : p + 2 ≤ s.size ∧ (s.data.toList.drop p).take 2 ∈ Tk.signs2
 ·obtain ⟨hl2,hm⟩:=h2
  have hx2 : (s.extract p (p + 2)).data.toList = (s.data.toList.drop p).take 2:=by rw [Tk.extract_list,show p + 2 - p = 2 by omega]
  have HS:=hid (rSign_at (t:=s.extract p (p + 2)) (r:=true) (by rw [hx2];simpa using (Tk.sgs_two (Tk.signs2_len hm)).2 hm))
  have HN:=hid (HV.out.trans (if_pos hm))
  rw [← hx2] at HN
  clear hm HV HX1 hx2
  go_enter Tryz.func28,Tryz.ntmps28
  go_upto_block 5 with (first | (go_at_call 61;(with_reducible refine (HL.out _).mono ?_);rintro e w2 ⟨rfl,rfl⟩) | (go_at_call 62;(with_reducible refine (HD.out _).mono ?_);rintro e w2 ⟨rfl,rfl⟩))
  go_wp2_with fail
  go_loop [11] (fun i => i = .int .i64 2) (fun i => 0)
  case atStart => rfl
  case round =>
   subst hrel
   go_wp2_with (go_at_call 65;(with_reducible refine (HS.out _).mono ?_);rintro e w2 ⟨rfl,g,rfl⟩)
   go_returns
   refine ⟨?_,more_of_below (by repeat' (first | with_reducible (first | exact Below.refl _ _ | assumption | refine below_more ?_ ?_ _ | refine below_drewN ?_ _ | refine Below.drew ?_ | refine Below.alloc ?_ ?_ _ | refine Below.setCell ?_ ?_ _) | go_size | (simp [more_size];done) | (simp [more_size];omega)))⟩
   rw [HN.out]
   refine ⟨s.extract p (p + 2),rfl,?_⟩
   have hnx : ((2 + p : Nat) : Int) = (p : Int) + 2:=by omega
   rw [hnx];rfl
 ·have HV2:=hid (HV.out.trans (if_neg (fun hm => h2 ⟨by have:=Tk.signs2_len hm;simp at this;omega,hm⟩)))
  have HS2 : p + 2 ≤ s.size → ∀ w,Calls Tryz.prog 65 #[.string (s.extract p (p + 2))] w fun e w' => e = .returned (.bool false) ∧ ∃ g,w' = more w g:=fun hl => rSign_at (t:=s.extract p (p + 2)) (r:=false) (by
   have hx2 : (s.extract p (p + 2)).data.toList = (s.data.toList.drop p).take 2:=by rw [Tk.extract_list,show p + 2 - p = 2 by omega]
   rw [hx2]
   have : ((s.data.toList.drop p).take 2).length = 2:=by simp;omega
   simp only [decide_eq_false_iff_not]
   intro hm
   exact h2 ⟨hl,(Tk.sgs_two this).1 hm⟩)
  replace HS2:=hid HS2
  clear h2 HV
  obtain ⟨r,hr⟩ : ∃ r,decide (s[p] ∈ Tk.signs1) = r:=⟨_,rfl⟩
  have HS1:=hid (rSign_at (t:=s.extract p (p + 1)) (r:=r) (by rw [HX1.out,← hr];simp only [decide_eq_decide];exact Tk.sgs_one _))
  have HN:=hid (show R = if r = true then .ok (6,(s.extract p (p + 1)).data.toList,0,1) else .error 90 by rw [HV2.out,HX1.out,← hr];simp only [decide_eq_true_eq])
  clear hr HV2 HX1
  go_enter Tryz.func28,Tryz.ntmps28
  go_upto_block 5 with (first | (go_at_call 61;(with_reducible refine (HL.out _).mono ?_);rintro e w2 ⟨rfl,rfl⟩) | (go_at_call 62;(with_reducible refine (HD.out _).mono ?_);rintro e w2 ⟨rfl,rfl⟩))
  go_wp2_with fail
  go_loopw [11] (fun i wr => ∃ k : Nat,k ≤ 2 ∧ i = .int .i64 k ∧ (∃ g,wr = more (w.alloc (.cells #[.int .i64 0,.string ⟨#[]⟩,.int .i64 0,.int .i64 0] 40)) g) ∧ (k = 0 → r = false)) (fun i _ => (intOf i).toNat)
  case atStart => exact ⟨2,by omega,rfl,more_refl _,by simp⟩
  case round =>
   obtain ⟨k,hk,rfl,⟨g,rfl⟩,hr0⟩:=hrel
   match k,hk with
   | 2,_ =>
    clear hr0
    by_cases hl : p + 2 ≤ s.size
    ·have HS:=hid (HS2.out hl)
     clear HS2
     go_wp2_with (go_at_call 65;(with_reducible refine (HS.out _).mono ?_);rintro e w2 ⟨rfl,g2,rfl⟩)
     refine ⟨⟨1,by omega,by simp,⟨_,rfl⟩,by simp⟩,by simp [intOf]⟩
    ·clear HS2
     go_wp2
     refine ⟨⟨1,by omega,by simp,⟨_,rfl⟩,by simp⟩,by simp [intOf]⟩
   | 1,_ =>
    clear hr0 HS2
    cases r
    ·go_wp2_with (go_at_call 65;(with_reducible refine (HS1.out _).mono ?_);rintro e w2 ⟨rfl,g2,rfl⟩)
     refine ⟨⟨0,by omega,by simp,⟨_,rfl⟩,by simp⟩,by simp [intOf]⟩
    ·go_wp2_with (go_at_call 65;(with_reducible refine (HS1.out _).mono ?_);rintro e w2 ⟨rfl,g2,rfl⟩)
     go_returns
     refine ⟨?_,more_of_below (by repeat' (first | with_reducible (first | exact Below.refl _ _ | assumption | refine below_more ?_ ?_ _ | refine below_drewN ?_ _ | refine Below.drew ?_ | refine Below.alloc ?_ ?_ _ | refine Below.setCell ?_ ?_ _) | go_size | (simp [more_size];done) | (simp [more_size];omega)))⟩
     rw [HN.out]
     refine ⟨s.extract p (p + 1),rfl,?_⟩
     have hnx : ((1 + p : Nat) : Int) = (p : Int) + 1:=by omega
     rw [hnx];rfl
   | 0,_ =>
    have hrf:=hr0 rfl
    subst hrf
    clear hr0 HS2 HS1
    go_wp2
    go_returns
    refine ⟨?_,more_of_below (by repeat' (first | with_reducible (first | exact Below.refl _ _ | assumption | refine below_more ?_ ?_ _ | refine below_drewN ?_ _ | refine Below.drew ?_ | refine Below.alloc ?_ ?_ _ | refine Below.setCell ?_ ?_ _) | go_size | (simp [more_size];done) | (simp [more_size];omega)))⟩
    rw [HN.out]
    exact ⟨_,_,_,_,_,rfl⟩
theorem rone_any (s : ByteArray) (p : Nat) (w : World) (hs : s.size < 4294967281) (hp : p < s.size) (R : Tk.R) (hR : Tk.tokF (s.data.toList.drop p) = R) :
  Calls Tryz.prog 28 #[.string s,.int .i64 p] w fun e w' => Tk.TokRet R p p e ∧ ∃ g,w' = more w g:=by
 rw [Tk.tokF_p s p hp] at hR
 cases hc : Tk.letter s[p]
 ·rw [if_neg (by simp [hc])] at hR
  cases hd : Tk.digit s[p]
  ·rw [if_neg (by simp [hd])] at hR
   by_cases hq : s[p] = 34
   ·rw [if_pos hq] at hR;exact rone_text s p w hs hp hc hd hq R hR
   ·rw [if_neg hq] at hR;exact rone_sign s p w hs hp hc hd hq R hR
  ·rw [if_pos hd] at hR;exact rone_number s p w hs hp hc hd R hR
 ·rw [if_pos hc] at hR;exact rone_word s p w hs hp hc R hR
namespace Tk
theorem skip_ret {s : ByteArray} {p : Nat} {e : Ending} (h : SkipRet s p e) : ∃ q b,e = .returned (.tuple #[.int .i64 ((q : Nat) : Int),.bool b]) ∧ Hid (skips s p q b):=h
end Tk
theorem rlex_any (s : ByteArray) (w : World) (hs : s.size < 4294967281) :
  Calls Tryz.prog 10 #[.string s] w fun e w' => Tk.LexRet w w' (Tk.lexR s) e ∧ ∃ g,w' = more w g:=by
 by_cases hbig : 16384 < s.size
 ·have hR : Tk.lexR s = .error (0,2):=by simp [Tk.lexR,hbig]
  rw [hR]
  clear hR
  go_enter Tryz.func10,Tryz.ntmps10
  go_wp2
  go_returns
  exact ⟨rfl,more_refl _⟩
 obtain ⟨R,hR⟩ : ∃ R,Tk.lexR s = R:=⟨_,rfl⟩
 rw [hR]
 have HV:=hid (show R = Tk.lexF s.data.toList 0 0 by rw [← hR];simp [Tk.lexR,hbig])
 obtain ⟨i0,hi,hz0,hz1,hz2⟩:=info_parts info_tok
 clear hR
 have HS:=hid (fun p hp W => rskip_any s p W hs hp)
 go_enter Tryz.func10,Tryz.ntmps10
 go_wp2_with (go_at_call 27;(refine (rskip_any s 0 w hs (Nat.zero_le _)).mono ?_);rintro e w' ⟨hsk,rfl⟩;obtain ⟨q0,b0,rfl,HK⟩:=Tk.skip_ret hsk)
 have HK2:=hid (show R = if b0 then Tk.lexF (s.data.toList.drop q0) q0 0 else .error (q0,90) by rw [HV.out];have:=HK.out.1 0;simpa using this)
 have hq0:=HK.out.2.2.1
 have HK3:=hid HK.out.2.2.2
 clear HK HV hsk
 go_loopw [5,6,7] (fun v i sb wr => ∃ (p : Nat) (b : Bool) (ts : List Tk.Tok),i = .int .i64 p ∧ sb = .bool b ∧ p ≤ s.size ∧ ts.length ≤ 6000 ∧ wr.ownsRow w'.heap.size 40 4 v ts.length (Tk.tokCells ts) ∧ Below w'.heap.size w' wr ∧ Hid (R = if b then Tk.pre ts (Tk.lexF (s.data.toList.drop p) p ts.length) else .error (p,90)) ∧ Hid (b = true → Tk.stop s p)) (fun _ i sb _ => (s.size - (intOf i).toNat) + (match sb with | .bool true => 1 | _ => 0))
 case atStart => exact ⟨q0,b0,[],rfl,rfl,hq0,by simp,World.ownsRow_nil _ _ _ _,Below.refl _ _,hid (by rw [HK2.out];cases b0 <;> simp [Tk.pre];cases Tk.lexF (s.data.toList.drop q0) q0 0 <;> rfl),HK3⟩
 case round =>
  obtain ⟨p,b,ts,rfl,rfl,hp,hk,hown,hBw,H,HSt⟩:=hrel
  have hsz:=hBw.size
  have HO:=hid hown
  obtain ⟨va,cap,rfl,hc1,hc2⟩:=owns_form hown
  have HBW:=hid hBw
  clear hown hBw
  cases b
  ·have HN:=hid (show R = .error (p,90) by rw [H.out];rfl)
   clear H HSt
   go_wp2
   go_returns
   refine ⟨?_,(by have hBw2:=HBW.out;exact more_of_below hBw2)⟩
   rw [HN.out]
   rfl
  ·have H:=hid (show R = Tk.pre ts (Tk.lexF (s.data.toList.drop p) p ts.length) by rw [H.out];rfl)
   by_cases hlt : p < s.size
   ·have hst : Tk.blank s[p] = false ∧ Tk.opens (s.data.toList.drop p) = false:=by
     rcases HSt.out rfl with h | ⟨_,h⟩
     ·omega
     ·exact h
    clear HSt
    obtain ⟨hbl,hop⟩:=hst
    have hD:=Tk.drop_at s p hlt
    cases ht : Tk.tokF (s.data.toList.drop p) with
    | error ec =>
     have he:=Tk.tokF_err ht
     have HN:=hid (show R = .error (p,ec) by
      rw [H.out]
      rw [hD] at ht hop ⊢
      rw [Tk.lexF_err p _ hbl hop ht];rfl)
     have HT : ∀ W,Calls Tryz.prog 28 #[.string s,.int .i64 p] W fun e w' => (∃ f t n a2 m2,e = .returned (.tuple #[.agg #[.int .i64 f,.string t,.int .i64 n,.int .i64 a2],.int .i64 m2,.int .i64 ec])) ∧ ∃ g,w' = more W g:=
      fun W => (rone_any s p W hs hlt (.error ec) ht).mono fun e w' ⟨⟨f,t,n,a,m,h⟩,h2⟩ => ⟨⟨f,t,n,a,m,h⟩,h2⟩
     replace HT:=hid HT
     have e1 : (ec == 0) = false:=by simp;omega
     have e2 : (ec != 0) = true:=by simp;omega
     clear hbl hop ht hD H he
     go_wp2_with (go_at_call 28;(with_reducible refine (HT.out _).mono ?_);rintro e w2 ⟨⟨f,t,n,a2,m2,rfl⟩,g,rfl⟩)
     go_returns
     refine ⟨?_,(by have hBw2:=HBW.out;exact more_of_below (by repeat' (first | with_reducible (first | exact Below.refl _ _ | assumption | refine below_more ?_ ?_ _ | refine below_drewN ?_ _ | refine Below.drew ?_ | refine Below.alloc ?_ ?_ _ | refine Below.setCell ?_ ?_ _) | go_size | (simp [more_size];done) | (simp [more_size];omega))))⟩
     rw [HN.out]
     rfl
    | ok v4 =>
     obtain ⟨kd,tw,tn,tm⟩:=v4
     have hm:=Tk.tokF_len ht
     have hm2 : p + tm ≤ s.size:=by have:=hm.2;simp at this;omega
     have HT : ∀ W,Calls Tryz.prog 28 #[.string s,.int .i64 p] W fun e w' => e = .returned (.tuple #[.agg #[.int .i64 kd,.string ⟨tw.toArray⟩,.int .i64 tn,.int .i64 p],.int .i64 ((tm + p : Nat) : Int),.int .i64 0]) ∧ ∃ g,w' = more W g:=
      fun W => (rone_any s p W hs hlt (.ok (kd,tw,tn,tm)) ht).mono fun e w' ⟨⟨t,h1,h2⟩,h3⟩ => ⟨by rw [h2,← h1,bytes_self];rfl,h3⟩
     replace HT:=hid HT
     by_cases h6 : ts.length = 6000
     ·have HN:=hid (show R = .error (p,3) by
       rw [H.out]
       rw [hD] at ht hop ⊢
       rw [Tk.lexF_tok p _ hbl hop ht,if_pos h6];rfl)
      have h6' : ((ts.length : Int) == 6000) = true:=by simp;omega
      clear hbl hop ht hD H h6
      go_wp2_with (go_at_call 28;(with_reducible refine (HT.out _).mono ?_);rintro e w2 ⟨rfl,g,rfl⟩)
      go_returns
      refine ⟨?_,(by have hBw2:=HBW.out;exact more_of_below (by repeat' (first | with_reducible (first | exact Below.refl _ _ | assumption | refine below_more ?_ ?_ _ | refine below_drewN ?_ _ | refine Below.drew ?_ | refine Below.alloc ?_ ?_ _ | refine Below.setCell ?_ ?_ _) | go_size | (simp [more_size];done) | (simp [more_size];omega))))⟩
      rw [HN.out]
      rfl
     ·have HV:=hid (show R = Tk.pre (ts ++ [(kd,tw,tn,(p : Int))]) (Tk.lexF (s.data.toList.drop (p + tm)) (p + tm) (ts ++ [(kd,tw,tn,(p : Int))]).length) by
       rw [H.out]
       rw [← List.drop_drop,List.length_append,List.length_singleton]
       rw [hD] at ht hop ⊢
       rw [Tk.lexF_tok p _ hbl hop ht,if_neg h6]
       exact Tk.pre_tok _ _ _)
      have h6' : ((ts.length : Int) == 6000) = false:=by simp;omega
      have hk6 : ts.length < 6000:=by omega
      have HN:=hid (Tk.tokCells_snoc ts (kd,tw,tn,(p : Int)))
      have hm1:=hm.1
      have HSk : ∀ W,Calls Tryz.prog 27 #[.string s,.int .i64 ((tm : Int) + p)] W fun e w' => Tk.SkipRet s (p + tm) e ∧ w' = W:=fun W => by
       have:=rskip_any s (p + tm) W hs hm2
       rw [show ((tm : Int) + p) = ((p + tm : Nat) : Int) by omega]
       exact this
      replace HSk:=hid HSk
      clear hbl hop ht hD H hm h6
      go_wp2_with (first | (go_at_call 28;(with_reducible refine (HT.out _).mono ?_);rintro e w2 ⟨rfl,g,rfl⟩) | (at_builtin;refine wpList_append_reads rfl _ _ 35 rfl w'.heap.size 40 i0 (.agg #[.int .i64 0,.string ⟨#[]⟩,.int .i64 0,.int .i64 0]) 4 40 Tryz.underlying35 hi hz0 hz1 hz2 rfl (by decide) _ ts.length _ rfl (owns_kept HO.out ?_) _ 1 [.int .i64 kd,.string ⟨tw.toArray⟩,.int .i64 tn,.int .i64 p] rfl (reads_token _ _ _ _ _ _ 40 ?_) ?_ ?_ ?_ ?_ ?_;(focus (exact (by repeat' (first | with_reducible (first | exact Below.refl _ _ | assumption | refine below_more ?_ ?_ _ | refine below_drewN ?_ _ | refine Below.drew ?_ | refine Below.alloc ?_ ?_ _ | refine Below.setCell ?_ ?_ _) | go_size | (simp [more_size];done) | (simp [more_size];omega)))));(focus (simp [more_size];done));(focus (intro q hq;simp at hq;rcases hq with rfl | rfl | rfl | rfl <;> rfl));(focus (unfold maxLen;omega));(focus omega);(focus (first | (simp [more_size];omega) | omega));intro v' w1 hown' hgrow))
      have hBn : Below w'.heap.size w' w1:=by
       refine below_grown ?_ ?_ hgrow (owns_rows HO.out)
       ·have hBw2:=HBW.out;exact (by repeat' (first | with_reducible (first | exact Below.refl _ _ | assumption | refine below_more ?_ ?_ _ | refine below_drewN ?_ _ | refine Below.drew ?_ | refine Below.alloc ?_ ?_ _ | refine Below.setCell ?_ ?_ _) | go_size | (simp [more_size];done) | (simp [more_size];omega)))
       ·first | (simp [more_size];omega) | omega
      have HX:=hid hown'
      have HY:=hid hBn
      clear hown' hBn hgrow
      go_wp2_with (go_at_call 27;(with_reducible refine (HSk.out _).mono ?_);rintro e w3 ⟨hsk,rfl⟩;obtain ⟨q1,b1,rfl,HK⟩:=Tk.skip_ret hsk)
      have hq1:=HK.out.2.2.1
      have hq2:=HK.out.2.1
      have HK3:=hid HK.out.2.2.2
      have HV2:=hid (show R = if b1 then Tk.pre (ts ++ [(kd,tw,tn,(p : Int))]) (Tk.lexF (s.data.toList.drop q1) q1 (ts ++ [(kd,tw,tn,(p : Int))]).length) else .error (q1,90) by
       rw [HV.out,HK.out.1];cases b1 <;> rfl)
      clear HV HK hsk
      go_roundw
      case rel => exact ⟨q1,b1,ts ++ [(kd,tw,tn,(p : Int))],rfl,rfl,hq1,by simp;omega,by rw [HN.out,List.length_append,List.length_singleton];exact HX.out,HY.out,HV2,HK3⟩
      case measure => cases b1 <;> simp [intOf] <;> omega
   ·have HN:=hid (show R = .ok ts by rw [H.out,List.drop_eq_nil_of_le (by simp;omega),Tk.lexF_nil];simp [Tk.pre])
    clear H HSt
    go_wp2
    go_returns
    refine ⟨?_,(by have hBw2:=HBW.out;exact more_of_below hBw2)⟩
    rw [HN.out]
    exact ⟨_,rfl,Reads.of_owns HO.out,hk,HO.out⟩
end Go.Proofs.YtlhmkfcbldghfaaGreatDoor
