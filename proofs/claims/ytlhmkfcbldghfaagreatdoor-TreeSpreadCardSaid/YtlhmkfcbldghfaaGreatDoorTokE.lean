/- The walk of the document's skip. Conditions: the text's size is bounded;the place lies in it. -/
import Derived.Test.YtlhmkfcbldghfaaGreatDoorTkB
namespace Go.Proofs.YtlhmkfcbldghfaaGreatDoor
set_option linter.all false
open Go.Lib (hid)
set_option maxRecDepth 1000000
set_option maxHeartbeats 16000000
open Go.RowKit
def Tk.cend (l : List UInt8) (p : Nat) : Int:=match Tk.cmt (l.drop p) 0 with | some n => ((n + p : Nat) : Int) | none => -1
theorem Tk.cend_some {l : List UInt8} {p n : Nat} (h : Tk.cmt (l.drop p) 0 = some n) : Tk.cend l p = ((n + p : Nat) : Int):=by simp [Tk.cend,h]
theorem Tk.cend_none {l : List UInt8} {p : Nat} (h : Tk.cmt (l.drop p) 0 = none) : Tk.cend l p = -1:=by simp [Tk.cend,h]
theorem rcomment_any (s : ByteArray) (p : Nat) (w : World) (hs : s.size < 4294967281) (hp : p ≤ s.size) :
  Calls Tryz.prog 60 #[.string s,.int .i64 p] w fun e w' => e = .returned (.int .i64 (Tk.cend s.data.toList p)) ∧ w' = w:=by
 go_enter Tryz.func60,Tryz.ntmps60
 go_wp2
 go_loop [1,5] (fun i o => ∃ (k : Nat) (d : Int),p + k ≤ s.size ∧ i = .int .i64 ((p + k : Nat) : Int) ∧ o = .int .i64 d ∧ (-(k : Int) ≤ d ∧ d ≤ k) ∧ Hid (Tk.cmt (s.data.toList.drop p) 0 = (Tk.cmt (s.data.toList.drop (p + k)) d).map (· + k))) (fun i _ => s.size - (intOf i).toNat)
 case atStart => exact ⟨0,0,by omega,rfl,rfl,by omega,hid (by simp)⟩
 case round =>
  obtain ⟨k,d,hk,rfl,rfl,hd,H⟩:=hrel
  generalize hq : p + k = q at hk H
  by_cases hlt : q + 1 < s.size
  ·have HE:=hid (Tk.cmt_step s q d hlt)
   by_cases h1 : s.extract q (q + 2) = ⟨#[40,42]⟩
   ·have h1':=hid ((Tk.pair_eq s q hlt 40 42).1 h1)
    go_wp2
    go_round
    case rel => exact ⟨k + 2,d + 1,by omega,by subst hq;go_num,by go_num,by omega,hid (by subst hq;rw [H.out,HE.out,if_pos h1'.out,Option.map_map];congr 1;funext x;simp;omega)⟩
    case measure => simp [intOf];omega
   ·have hb1 : ((s.extract q (q + 2)).toList == [40,42]) = false:=ne_bytes h1
    have hn1:=hid (fun h => h1 ((Tk.pair_eq s q hlt 40 42).2 h))
    by_cases h2 : s.extract q (q + 2) = ⟨#[42,41]⟩
    ·have h2':=hid ((Tk.pair_eq s q hlt 42 41).1 h2)
     by_cases hd1 : d = 1
     ·subst hd1
      have HV:=hid (show Tk.cend s.data.toList p = ((2 + k + p : Nat) : Int) from Tk.cend_some (by rw [H.out,HE.out,if_neg hn1.out,if_pos h2'.out,if_pos rfl];rfl))
      clear HE H
      go_wp2
      go_ret
      exact ⟨by rw [HV.out];show Ending.returned (.int .i64 _) = .returned (.int .i64 _);congr 2;omega,rfl⟩
     ·have hd2 : (d - 1 == 0) = false:=by simp;omega
      go_wp2
      go_round
      case rel => exact ⟨k + 2,d - 1,by omega,by subst hq;go_num,by go_num,by omega,hid (by subst hq;rw [H.out,HE.out,if_neg hn1.out,if_pos h2'.out,if_neg hd1,Option.map_map];congr 1;funext x;simp;omega)⟩
      case measure => simp [intOf];omega
    ·have hb2 : ((s.extract q (q + 2)).toList == [42,41]) = false:=ne_bytes h2
     have hn2:=hid (fun h => h2 ((Tk.pair_eq s q hlt 42 41).2 h))
     go_wp2
     go_round
     case rel => exact ⟨k + 1,d,by omega,by subst hq;go_num,rfl,by omega,hid (by subst hq;rw [H.out,HE.out,if_neg hn1.out,if_neg hn2.out,Option.map_map];congr 1;funext x;simp;omega)⟩
     case measure => simp [intOf];omega
  ·have HV:=hid (show Tk.cend s.data.toList p = -1 from Tk.cend_none (by rw [H.out,Tk.cmt_end s q d hlt];rfl))
   go_wp2
   go_ret
   exact ⟨by rw [HV.out];rfl,rfl⟩
namespace Tk
def stop (s : ByteArray) (q : Nat) : Prop:=q = s.size ∨ ∃ h : q < s.size,blank s[q] = false ∧ opens (s.data.toList.drop q) = false
def skips (s : ByteArray) (p q : Nat) (b : Bool) : Prop:=
 (∀ k,lexF (s.data.toList.drop p) p k = if b then lexF (s.data.toList.drop q) q k else .error (q,90)) ∧ p ≤ q ∧ q ≤ s.size ∧ (b = true → stop s q)
def SkipRet (s : ByteArray) (p : Nat) (e : Ending) : Prop:=∃ (q : Nat) (b : Bool),e = .returned (.tuple #[.int .i64 q,.bool b]) ∧ skips s p q b
end Tk
theorem rskip_any (s : ByteArray) (p : Nat) (w : World) (hs : s.size < 4294967281) (hp : p ≤ s.size) :
  Calls Tryz.prog 27 #[.string s,.int .i64 p] w fun e w' => Tk.SkipRet s p e ∧ w' = w:=by
 go_enter Tryz.func27,Tryz.ntmps27
 go_wp2
 go_loop [1] (fun i => ∃ (q : Nat),p ≤ q ∧ q ≤ s.size ∧ i = .int .i64 q ∧ Hid (∀ k,Tk.lexF (s.data.toList.drop p) p k = Tk.lexF (s.data.toList.drop q) q k)) (fun i => s.size - (intOf i).toNat)
 case atStart => exact ⟨p,by omega,by omega,rfl,hid (fun _ => rfl)⟩
 case round =>
  obtain ⟨q,hpq,hq,rfl,H⟩:=hrel
  by_cases hlt : q < s.size
  ·have HD:=hid (Tk.drop_at s q hlt)
   generalize hc : s[q] = c at *
   have hb : c.toNat < 256:=c.toNat_lt
   cases hbl : Tk.blank c
   ·obtain ⟨n9,n10,n13,n32⟩:=Tk.blank_no hbl
    have b9 : ((c.toNat : Int) == 9) = false:=by simp;omega
    have b10 : ((c.toNat : Int) == 10) = false:=by simp;omega
    have b13 : ((c.toNat : Int) == 13) = false:=by simp;omega
    have b32 : ((c.toNat : Int) == 32) = false:=by simp;omega
    by_cases hl1 : q + 1 < s.size
    ·by_cases h1 : s.extract q (q + 2) = ⟨#[40,42]⟩
     ·have HO:=hid ((Tk.opens_at s q hl1).2 h1)
      cases hcm : Tk.cmt (s.data.toList.drop q) 0 with
      | none =>
       have hce:=Tk.cend_none hcm
       have HR:=hid (show Tk.skips s p q false from ⟨fun k => by rw [H.out k];rw [HD.out] at hcm ⊢;exact Tk.lexF_cmt_none q k hbl (HD.out ▸ HO.out) hcm,hpq,hq,by simp⟩)
       clear hbl hcm H HO HD
       go_wp2_with (go_at_call 60;refine (rcomment_any s q _ hs hq).mono ?_;rw [hce];rintro e w' ⟨rfl,rfl⟩)
       go_ret2
       exact ⟨⟨q,false,rfl,HR.out⟩,rfl⟩
      | some n =>
       have hce:=Tk.cend_some hcm
       have hn:=Tk.cmt_len _ _ _ hcm
       have hn2 : q + n ≤ s.size:=by have:=hn.2;simp at this;omega
       have HR:=hid (show ∀ k,Tk.lexF (s.data.toList.drop p) p k = Tk.lexF (s.data.toList.drop (n + q)) (n + q) k from fun k => by
        rw [H.out k]
        have h1:=HO.out
        rw [HD.out] at hcm h1 ⊢
        rw [Tk.lexF_cmt q k hbl h1 hcm,← HD.out,List.drop_drop,Nat.add_comm q n])
       have hn0:=hn.1
       clear hbl hcm H HO HD hn
       go_wp2_with (go_at_call 60;refine (rcomment_any s q _ hs hq).mono ?_;rw [hce];rintro e w' ⟨rfl,rfl⟩)
       go_round
       case rel => exact ⟨n + q,by omega,by omega,by rw [Int.natCast_add],HR⟩
       case measure => simp [intOf];omega
     ·have hb1 : ((s.extract q (q + 2)).toList == [40,42]) = false:=ne_bytes h1
      have HR:=hid (show Tk.skips s p q true from ⟨fun k => by rw [H.out k];rfl,hpq,hq,fun _ => .inr ⟨hlt,by rw [hc];exact hbl,by
       have:=mt (Tk.opens_at s q hl1).1 h1
       simpa using this⟩⟩)
      clear hbl H HD
      go_wp2
      go_ret2
      first | exact ⟨⟨q,true,rfl,HR.out⟩,rfl⟩ | exact ⟨q,true,rfl,HR.out⟩
    ·have HR:=hid (show Tk.skips s p q true from ⟨fun k => by rw [H.out k];rfl,hpq,hq,fun _ => .inr ⟨hlt,by rw [hc];exact hbl,Tk.opens_last s q hl1⟩⟩)
     clear hbl H HD
     go_wp2
     go_ret2
     first | exact ⟨⟨q,true,rfl,HR.out⟩,rfl⟩ | exact ⟨q,true,rfl,HR.out⟩
   ·have HR:=hid (show ∀ k,Tk.lexF (s.data.toList.drop p) p k = Tk.lexF (s.data.toList.drop (q + 1)) (q + 1) k from fun k => by rw [H.out k,HD.out,Tk.lexF_blank q k hbl])
    have hor:=(Tk.blank_iff c).1 hbl
    clear hbl H HD
    rcases hor with h | h | h | h
    ·have b9 : ((c.toNat : Int) == 9) = true:=by simp;omega
     go_wp2
     go_round
     case rel => exact ⟨q + 1,by omega,by omega,by go_num,HR⟩
     case measure => simp [intOf];omega
    ·have b9 : ((c.toNat : Int) == 9) = false:=by simp;omega
     have b10 : ((c.toNat : Int) == 10) = true:=by simp;omega
     go_wp2
     go_round
     case rel => exact ⟨q + 1,by omega,by omega,by go_num,HR⟩
     case measure => simp [intOf];omega
    ·have b9 : ((c.toNat : Int) == 9) = false:=by simp;omega
     have b10 : ((c.toNat : Int) == 10) = false:=by simp;omega
     have b13 : ((c.toNat : Int) == 13) = true:=by simp;omega
     go_wp2
     go_round
     case rel => exact ⟨q + 1,by omega,by omega,by go_num,HR⟩
     case measure => simp [intOf];omega
    ·have b9 : ((c.toNat : Int) == 9) = false:=by simp;omega
     have b10 : ((c.toNat : Int) == 10) = false:=by simp;omega
     have b13 : ((c.toNat : Int) == 13) = false:=by simp;omega
     have b32 : ((c.toNat : Int) == 32) = true:=by simp;omega
     go_wp2
     go_round
     case rel => exact ⟨q + 1,by omega,by omega,by go_num,HR⟩
     case measure => simp [intOf];omega
  ·have he : q = s.size:=by omega
   have HR:=hid (show Tk.skips s p q true from ⟨fun k => by rw [H.out k];rfl,hpq,hq,fun _ => .inl he⟩)
   clear H
   subst he
   go_wp2
   go_ret2
   first | exact ⟨⟨_,true,rfl,HR.out⟩,rfl⟩ | exact ⟨_,true,rfl,HR.out⟩
end Go.Proofs.YtlhmkfcbldghfaaGreatDoor
