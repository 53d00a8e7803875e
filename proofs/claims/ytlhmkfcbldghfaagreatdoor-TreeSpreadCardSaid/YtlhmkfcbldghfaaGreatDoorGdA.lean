/- The walks of the document's Dec (of numbers that are not negative) and hex. Conditions: numbers lie in their bounds. The walk of the document's One: a good token's text. Conditions: the token is good,or not too large. -/
import Derived.Test.YtlhmkfcbldghfaaGreatDoorTokI
import Derived.Test.YtlhmkfcbldghfaaGreatDoorTokRa
import Derived.Laws.BytesArg
import Derived.Lib.AppendStr
namespace Go.Proofs.YtlhmkfcbldghfaaGreatDoor
set_option linter.all false
open Go.Lib (hid)
set_option maxRecDepth 1000000
set_option maxHeartbeats 16000000
open Go.RowKit
theorem convert_one (W : World) (b : Nat) (c : UInt8) (h : W.cell? ⟨b,0,none⟩ = some (.int .u8 (c.toNat : Int))) :
  (convert 132 9 (.slice (some ⟨b,0,none⟩) 1 1)).run Tryz.prog W = .ok (.string ⟨#[c]⟩) W:=by
 have:=run_convert_bytes_arg (P:=Tryz.prog) W 132 5 Tryz.underlying132 Tryz.underlying5 b 0 1 1 [(c.toNat : Int)] rfl (fun j hj => by
  have : j = 0:=by omega
  subst this
  exact h) 9 Tryz.underlying9
 have hs : strOfNums [(c.toNat : Int)] = ⟨#[c]⟩:=by
  unfold strOfNums
  simp
 rw [this,hs]
namespace Tk
theorem decN_small {n : Nat} (h : n < 10) : decN n = [UInt8.ofNat (48 + n)]:=by rw [decN,dif_pos h]
theorem decN_big {n : Nat} (h : ¬ n < 10) : decN n = decN (n / 10) ++ [UInt8.ofNat (48 + n % 10)]:=by rw [decN,dif_neg h]
theorem dec_byte (d : Nat) (h : d < 10) : ((UInt8.ofNat (48 + d)).toNat : Int) = 48 + (d : Int):=by
 have : d = 0 ∨ d = 1 ∨ d = 2 ∨ d = 3 ∨ d = 4 ∨ d = 5 ∨ d = 6 ∨ d = 7 ∨ d = 8 ∨ d = 9:=by omega
 rcases this with rfl | rfl | rfl | rfl | rfl | rfl | rfl | rfl | rfl | rfl <;> rfl
theorem decN_le (n : Nat) : (decN n).length ≤ n + 1:=by
 induction n using Nat.strongRecOn with
 | _ n ih =>
  by_cases h : n < 10
  ·rw [decN_small h];simp
  ·rw [decN_big h]
   have:=ih (n / 10) (by omega)
   simp;omega
end Tk
theorem rdec_any (n : Nat) : n < 9223372036854775808 → ∀ w : World,Calls Tryz.prog 30 #[.int .i64 n] w fun e w' => e = .returned (.string ⟨(Tk.decN n).toArray⟩) ∧ ∃ g,w' = more w g:=by
 induction n using Nat.strongRecOn with
 | _ n ih =>
  intro hn w
  obtain ⟨z,hz⟩ : ∃ z : Int,z = n:=⟨_,rfl⟩
  rw [← hz]
  have z0 : 0 ≤ z:=by omega
  by_cases h : n < 10
  ·have z1 : z < 10:=by omega
   have hb:=Tk.dec_byte n h
   rw [← hz] at hb
   rw [Tk.decN_small h]
   generalize UInt8.ofNat (48 + n) = c at *
   have hcv:=convert_one (w.alloc (.cells #[.int .u8 (48 + z)] 5)) w.heap.size c (by rw [hb];simp [go_sem])
   clear hz h ih hn hb
   go_enter Tryz.func30,Tryz.ntmps30
   go_wp2
   go_ret
   exact ⟨rfl,more_of_below (by repeat' (first | with_reducible (first | exact Below.refl _ _ | refine Below.alloc ?_ ?_ _) | go_size))⟩
  ·have z1 : 10 ≤ z:=by omega
   have IH:=hid (fun W => ih (n / 10) (by omega) (by omega) W)
   have hq : z.tdiv 10 = ((n / 10 : Nat) : Int):=by rw [hz];rfl
   have hr : z.tmod 10 = ((n % 10 : Nat) : Int):=by rw [hz];rfl
   have hb:=Tk.dec_byte (n % 10) (by omega)
   have hd : n % 10 < 10:=Nat.mod_lt _ (by decide)
   have HD:=hid (show (⟨(Tk.decN n).toArray⟩ : ByteArray) = ⟨(Tk.decN (n / 10)).toArray⟩ ++ ⟨#[UInt8.ofNat (48 + n % 10)]⟩ by
    rw [Tk.decN_big h];apply ByteArray.ext;simp [ByteArray.data_append])
   have hl : (⟨(Tk.decN (n / 10)).toArray⟩ : ByteArray).size ≤ n / 10 + 1:=by show (Tk.decN (n / 10)).toArray.size ≤ _;simpa using Tk.decN_le (n / 10)
   have hq1 : n / 10 ≤ 922337203685477580:=by omega
   generalize n / 10 = q at *
   generalize n % 10 = r at *
   generalize UInt8.ofNat (48 + r) = c at *
   generalize (⟨(Tk.decN q).toArray⟩ : ByteArray) = D at *
   have hD : (D.size : Int) ≤ 922337203685477581:=by omega
   obtain ⟨zq,hzq⟩ : ∃ zq : Int,zq = (q : Int):=⟨_,rfl⟩
   obtain ⟨zr,hzr⟩ : ∃ zr : Int,zr = (r : Int):=⟨_,rfl⟩
   rw [← hzq] at hq IH
   rw [← hzr] at hr hb
   have q0 : 0 ≤ zq:=by omega
   have q1 : zq ≤ 922337203685477580:=by omega
   have r0 : 0 ≤ zr:=by omega
   have r1 : zr < 10:=by omega
   have hw1 : IntKind.i64.wrap zq = zq:=by rw [IntKind.wrap_i64];omega
   have hw2 : IntKind.i64.wrap (48 + zr) = 48 + zr:=by rw [IntKind.wrap_i64];omega
   have hw3 : IntKind.u8.wrap (48 + zr) = 48 + zr:=by rw [IntKind.wrap_u8];omega
   have hcv:=fun W b => convert_one W b c
   rw [hb] at hcv
   clear hz h ih hb hzq hzr hd hl hq1 hn
   go_enter Tryz.func30,Tryz.ntmps30
   go_wp2_with fail
   go_region_with (go_at_call 30;(with_reducible refine (IH.out _).mono ?_);rintro e w2 ⟨rfl,g,rfl⟩)
   all_goals first
    | (exfalso;omega)
    | (go_wp2;go_ret;exact ⟨by rw [HD.out];rfl,more_of_below (by repeat' (first | with_reducible (first | exact Below.refl _ _ | refine below_more ?_ ?_ _ | refine Below.alloc ?_ ?_ _) | go_size | (simp [more_size];done)))⟩)
namespace Tk
theorem hx_letter (d : Nat) (h : d < 16) : letter (hx d) = decide (57 < (hx d).toNat):=by
 have : d = 0 ∨ d = 1 ∨ d = 2 ∨ d = 3 ∨ d = 4 ∨ d = 5 ∨ d = 6 ∨ d = 7 ∨ d = 8 ∨ d = 9 ∨ d = 10 ∨ d = 11 ∨ d = 12 ∨ d = 13 ∨ d = 14 ∨ d = 15:=by omega
 rcases this with rfl | rfl | rfl | rfl | rfl | rfl | rfl | rfl | rfl | rfl | rfl | rfl | rfl | rfl | rfl | rfl <;> rfl
theorem hexN_small {n : Nat} (h : n < 16) : hexN n = [hx n]:=by rw [hexN,dif_pos h]
theorem hexN_big {n : Nat} (h : ¬ n < 16) : hexN n = hexN (n / 16) ++ [hx (n % 16)]:=by rw [hexN,dif_neg h]
theorem hexN_letter (n : Nat) : ∀ c ∈ hexN n,letter c = decide (57 < c.toNat):=by
 induction n using Nat.strongRecOn with
 | _ n ih =>
  by_cases h : n < 16
  ·rw [hexN_small h];intro c hc;simp at hc;subst hc;exact hx_letter n h
  ·rw [hexN_big h]
   intro c hc
   rcases List.mem_append.1 hc with hc | hc
   ·exact ih (n / 16) (by omega) c hc
   ·simp at hc;subst hc;exact hx_letter _ (by omega)
abbrev digs16 : ByteArray:=⟨#[48,49,50,51,52,53,54,55,56,57,65,66,67,68,69,70]⟩
theorem dig_cut (d : Nat) (h : d < 16) : digs16.extract d (d + 1) = ⟨#[hx d]⟩:=by
 have : d = 0 ∨ d = 1 ∨ d = 2 ∨ d = 3 ∨ d = 4 ∨ d = 5 ∨ d = 6 ∨ d = 7 ∨ d = 8 ∨ d = 9 ∨ d = 10 ∨ d = 11 ∨ d = 12 ∨ d = 13 ∨ d = 14 ∨ d = 15:=by omega
 rcases this with rfl | rfl | rfl | rfl | rfl | rfl | rfl | rfl | rfl | rfl | rfl | rfl | rfl | rfl | rfl | rfl <;> decide +kernel
def HexIn (n m : Nat) (s : ByteArray) : Prop:=(m = 0 ∧ s.data.toList = hexN n ∧ 0 < s.size) ∨ ((0 < m ∨ s.size = 0) ∧ hexN n = hexN m ++ s.data.toList)
theorem hex_next {n m : Nat} {s : ByteArray} (h : HexIn n m s) (hm : 0 < m ∨ s.size = 0) : HexIn n (m / 16) ((⟨#[hx (m % 16)]⟩ : ByteArray) ++ s):=by
 have hsz : 0 < ((⟨#[hx (m % 16)]⟩ : ByteArray) ++ s).size:=by simp [ByteArray.size_append];have : (⟨#[hx (m % 16)]⟩ : ByteArray).size = 1:=rfl;omega
 have hE : hexN n = hexN m ++ s.data.toList:=by
  rcases h with ⟨h1,h2,h3⟩ | ⟨_,h2⟩
  ·omega
  ·exact h2
 by_cases h16 : m < 16
 ·refine .inl ⟨by omega,?_,hsz⟩
  rw [hE,hexN_small h16,Nat.mod_eq_of_lt h16]
  simp [ByteArray.data_append]
 ·refine .inr ⟨.inl (by omega),?_⟩
  rw [hE,hexN_big h16]
  simp [ByteArray.data_append]
theorem hex_end {n : Nat} {s : ByteArray} (h : HexIn n 0 s) (hs : 0 < s.size) : s.data.toList = hexN n:=by
 rcases h with ⟨_,h2,_⟩ | ⟨h1,_⟩
 ·exact h2
 ·omega
end Tk
theorem rhex_any (n : Nat) (al : Bool) (w : World) (hn : n < 8589934592) :
  Calls Tryz.prog 29 #[.int .i64 n,.bool al] w fun e w' => (∃ t : ByteArray,Hid (t.data.toList = Tk.hexed n al) ∧ e = .returned (.string t)) ∧ ∃ g,w' = more w g:=by
 go_enter Tryz.func29,Tryz.ntmps29
 go_wp2
 go_loopw [0,5] (fun sn ss wr => ∃ (m : Nat) (z : Int) (s : ByteArray),sn = .int .i64 z ∧ ss = .string s ∧ wr = w ∧ s.size ≤ 9 ∧ 0 ≤ z ∧ z < 8589934592 ∧ Hid (z = m ∧ Tk.HexIn n m s)) (fun sn ss _ => (intOf sn).toNat + (match ss with | .string b => if b.size = 0 then 1 else 0 | _ => 0))
 case atStart => exact ⟨n,n,⟨#[]⟩,rfl,rfl,rfl,by decide,by omega,by omega,hid ⟨rfl,.inr ⟨.inr rfl,by simp⟩⟩⟩
 case round =>
  obtain ⟨m,z,s,rfl,rfl,rfl,hs,z0,z1,H⟩:=hrel
  obtain ⟨hzm,hin⟩:=H.out
  clear H
  have step : (0 < m ∨ s.size = 0) → ∃ (q : Int) (d : Nat),z.tdiv 16 = q ∧ z.tmod 16 = (d : Int) ∧ d < 16 ∧ 0 ≤ q ∧ q ≤ z ∧ (0 < z → q < z) ∧ Hid (Tk.digs16.extract d (d + 1) = ⟨#[Tk.hx d]⟩) ∧ Hid (q = (m / 16 : Nat) ∧ Tk.HexIn n (m / 16) ((⟨#[Tk.hx d]⟩ : ByteArray) ++ s)) ∧ s.size < 9:=by
   intro h
   refine ⟨((m / 16 : Nat) : Int),m % 16,by rw [hzm];rfl,by rw [hzm];rfl,Nat.mod_lt _ (by decide),by omega,by omega,by omega,hid (Tk.dig_cut _ (Nat.mod_lt _ (by decide))),hid ⟨rfl,Tk.hex_next hin h⟩,?_⟩
   have h9:=Tk.hexN_len n 8 (by omega)
   have h2 : s.data.toList.length = s.size:=by simp
   rcases hin with ⟨_,_,_⟩ | ⟨_,h3⟩
   ·omega
   ·have:=congrArg List.length h3
    rw [List.length_append,h2] at this
    have h4 : 0 < (Tk.hexN m).length:=by
     rcases Nat.lt_or_ge m 16 with h | h
     ·rw [Tk.hexN_small h];simp
     ·rw [Tk.hexN_big (by omega)];simp
    omega
  by_cases hz : 0 < z
  ·obtain ⟨q,d,hq,hr,hd,q0,q1,q2,hcut,HN,hs9⟩:=step (.inl (by omega))
   have hs2:=q2 hz
   clear q2 step hin hzm
   have hw1 : IntKind.i64.wrap q = q:=by rw [IntKind.wrap_i64];omega
   have hcut2:=hcut.out
   unfold Tk.digs16 at hcut2
   clear hcut
   have hqz : q < 8589934592:=by omega
   go_wp2
   refine ⟨⟨m / 16,q,(⟨#[Tk.hx d]⟩ : ByteArray) ++ s,rfl,rfl,(by first | rfl | trivial),by rw [ByteArray.size_append,show (⟨#[Tk.hx d]⟩ : ByteArray).size = 1 from rfl];omega,q0,hqz,HN⟩,?_⟩
   have e1 : ((⟨#[Tk.hx d]⟩ : ByteArray) ++ s).size = 1 + s.size:=by rw [ByteArray.size_append];rfl
   show q.toNat + (if ((⟨#[Tk.hx d]⟩ : ByteArray) ++ s).size = 0 then 1 else 0) < z.toNat + (if s.size = 0 then 1 else 0)
   rw [if_neg (by omega)]
   split <;> omega
  ·have hz0 : z = 0:=by omega
   subst hz0
   by_cases hss : s.size = 0
   ·have hse : s = ⟨#[]⟩:=by apply ByteArray.ext;apply Array.eq_empty_of_size_eq_zero;exact hss
    obtain ⟨q,d,hq,hr,hd,q0,q1,q2,hcut,HN,hs9⟩:=step (.inr hss)
    have hcut2:=hcut.out
    unfold Tk.digs16 at hcut2
    clear q2 step hin hzm hcut
    subst hse
    have hq0 : q = 0:=by omega
    subst hq0
    have e1 : ((⟨#[Tk.hx d]⟩ : ByteArray) ++ ⟨#[]⟩) = ⟨#[Tk.hx d]⟩:=by apply ByteArray.ext;simp [ByteArray.data_append]
    go_wp2
    refine ⟨⟨m / 16,0,(⟨#[Tk.hx d]⟩ : ByteArray) ++ ⟨#[]⟩,rfl,?_,(by first | rfl | trivial),by rw [ByteArray.size_append,show (⟨#[Tk.hx d]⟩ : ByteArray).size = 1 from rfl];exact (by decide),by omega,by omega,HN⟩,?_⟩
    ·first | rfl | (rw [e1]) | (rw [← hcut2]) | trace_state
    ·show 0 + (if (1 : Nat) = 0 then 1 else 0) < 0 + (if (0 : Nat) = 0 then 1 else 0)
     decide
   ·have hsb : (s.toList == ([] : List UInt8)) = false:=ne_bytes (x:=s) (l:=[]) (by rintro rfl;exact hss rfl)
    have hm0 : m = 0:=by omega
    subst hm0
    have HE:=hid (Tk.hex_end hin (by omega))
    have hpos : 0 < s.size:=by omega
    have h0 : s.data.toList = s[0] :: s.data.toList.drop 1:=by have:=Tk.drop_at s 0 hpos;simpa using this
    have hlt:=Tk.hexN_letter n s[0] (by rw [← HE.out,h0];exact List.mem_cons_self ..)
    have HX:=hid (show ∀ a,Tk.hexed n a = if (a || decide (57 < s[0].toNat)) = true then 48 :: s.data.toList else s.data.toList by
     intro a;unfold Tk.hexed;rw [← HE.out];rw [h0])
    clear h0 step hin hzm hss
    have h256 : s[0].toNat < 256:=s[0].toNat_lt
    generalize hc : s[0] = c at *
    cases al
    ·by_cases h57 : 57 < c.toNat
     ·have HL:=hid (rletter_at (c:=c) (r:=true) (by rw [hlt];simpa using h57))
      have HV:=hid (show Tk.hexed n false = 48 :: s.data.toList by rw [HX.out];simp [h57])
      clear h57 hlt HE HX
      go_wp2_with (go_at_call 61;(with_reducible refine (HL.out _).mono ?_);rintro e w2 ⟨rfl,rfl⟩)
      go_ret
      refine ⟨⟨_,hid ?_,rfl⟩,more_refl _⟩
      rw [HV.out,ByteArray.data_append];simp
     ·have HL:=hid (rletter_at (c:=c) (r:=false) (by rw [hlt];simpa using h57))
      have HV:=hid (show Tk.hexed n false = s.data.toList by rw [HX.out];simp [h57])
      clear h57 hlt HE HX
      go_wp2_with (go_at_call 61;(with_reducible refine (HL.out _).mono ?_);rintro e w2 ⟨rfl,rfl⟩)
      go_ret
      exact ⟨⟨_,hid HV.out.symm,rfl⟩,more_refl _⟩
    ·have HV:=hid (show Tk.hexed n true = 48 :: s.data.toList by rw [HX.out];simp)
     clear hlt HE HX
     go_wp2
     go_ret
     refine ⟨⟨_,hid ?_,rfl⟩,more_refl _⟩
     rw [HV.out];simp [ByteArray.data_append]
theorem Tk.str_lenO {s : ByteArray} {l : List UInt8} (h : s.data.toList = l) : s.size = l.length:=by rw [← h];simp
theorem rOne_any (kd n at_ : Int) (tw : ByteArray) (w : World) (hs : tw.size ≤ 4000000000) (hn : kd = 3 ∨ kd = 4 → -2147483648 ≤ n ∧ n < 2147483648) (h4n : kd = 4 → 0 ≤ n) :
  Calls Tryz.prog 11 #[.agg #[.int .i64 kd,.string tw,.int .i64 n,.int .i64 at_]] w fun e w' => (∃ t : ByteArray,Hid (t.data.toList = Tk.spell kd tw.data.toList n) ∧ e = .returned (.string t)) ∧ ∃ g,w' = more w g:=by
 by_cases h3 : kd = 3
 ·subst h3
  obtain ⟨n0,n1⟩:=hn (.inl rfl)
  clear hn h4n
  by_cases hneg : n < 0
  ·have HP:=hid (show Tk.spell 3 tw.data.toList n = Tk.hexed (n % 4294967296).toNat true ++ [72] by unfold Tk.spell;rw [if_pos rfl,if_pos hneg])
   obtain ⟨z,hz⟩ : ∃ z : Int,z = n + 4294967296:=⟨_,rfl⟩
   have hzm : ((n % 4294967296).toNat : Int) = z:=by omega
   have HX : Hid (∀ W,Calls Tryz.prog 29 #[.int .i64 z,.bool true] W fun e w' => (∃ t : ByteArray,(Hid (t.data.toList = Tk.hexed (n % 4294967296).toNat true) ∧ t.size ≤ 9) ∧ e = .returned (.string t)) ∧ ∃ g,w' = more W g):=
    hid (fun W => by
     have h:=rhex_any (n % 4294967296).toNat true W (by omega)
     rw [hzm] at h
     exact h.mono fun e w' ⟨⟨t,h1,h2⟩,h3⟩ => ⟨⟨t,⟨h1,by rw [Tk.str_lenO h1.out];exact Tk.hexed_len _ true (by omega)⟩,h2⟩,h3⟩)
   have hz2 : n + 4294967296 = z:=hz.symm
   clear hz hzm
   go_enter Tryz.func11,Tryz.ntmps11
   go_wp2_with (go_at_call 29;(with_reducible refine (HX.out _).mono ?_);rintro e w3 ⟨⟨t,⟨ht,hts⟩,rfl⟩,g2,rfl⟩)
   go_ret
   refine ⟨⟨_,hid ?_,rfl⟩,more_of_below (by repeat' (first | with_reducible (first | exact Below.refl _ _ | refine below_more ?_ ?_ _ | refine Below.alloc ?_ ?_ _) | go_size))⟩
   rw [HP.out];simp [ByteArray.data_append,ht.out]
  ·have hn0 : 0 ≤ n:=by omega
   have HP:=hid (show Tk.spell 3 tw.data.toList n = Tk.decN n.toNat by unfold Tk.spell;rw [if_pos rfl,if_neg hneg])
   have HD : Hid (∀ W,Calls Tryz.prog 30 #[.int .i64 n] W fun e w' => e = .returned (.string ⟨(Tk.decN n.toNat).toArray⟩) ∧ ∃ g,w' = more W g):=
    hid (fun W => by have h:=rdec_any n.toNat (by omega) W;rwa [show ((n.toNat : Nat) : Int) = n from by omega] at h)
   clear hneg
   go_enter Tryz.func11,Tryz.ntmps11
   go_wp2_with (go_at_call 30;(with_reducible refine (HD.out _).mono ?_);rintro e w3 ⟨rfl,g2,rfl⟩)
   go_ret
   exact ⟨⟨_,hid HP.out.symm,rfl⟩,more_of_below (by repeat' (first | with_reducible (first | exact Below.refl _ _ | refine below_more ?_ ?_ _ | refine Below.alloc ?_ ?_ _) | go_size))⟩
 have e3 : (kd == 3) = false:=by simpa using h3
 by_cases h4 : kd = 4
 ·subst h4
  obtain ⟨n0,n1⟩:=hn (.inr rfl)
  have n00:=h4n rfl
  have HP:=hid (show Tk.spell 4 tw.data.toList n = Tk.hexed (n % 4294967296).toNat false ++ [88] by unfold Tk.spell;rw [if_neg (by decide),if_pos rfl])
  have HX : Hid (∀ W,Calls Tryz.prog 29 #[.int .i64 n,.bool false] W fun e w' => (∃ t : ByteArray,(Hid (t.data.toList = Tk.hexed (n % 4294967296).toNat false) ∧ t.size ≤ 9) ∧ e = .returned (.string t)) ∧ ∃ g,w' = more W g):=
   hid (fun W => by
    have h:=rhex_any (n % 4294967296).toNat false W (by omega)
    rw [show ((n % 4294967296).toNat : Int) = n from by omega] at h
    exact h.mono fun e w' ⟨⟨t,h1,h2⟩,h3⟩ => ⟨⟨t,⟨h1,by rw [Tk.str_lenO h1.out];exact Tk.hexed_len _ false (by omega)⟩,h2⟩,h3⟩)
  clear hn h4n h3
  go_enter Tryz.func11,Tryz.ntmps11
  go_wp2_with (go_at_call 29;(with_reducible refine (HX.out _).mono ?_);rintro e w3 ⟨⟨t,⟨ht,hts⟩,rfl⟩,g2,rfl⟩)
  go_ret
  refine ⟨⟨_,hid ?_,rfl⟩,more_of_below (by repeat' (first | with_reducible (first | exact Below.refl _ _ | refine below_more ?_ ?_ _ | refine Below.alloc ?_ ?_ _) | go_size))⟩
  rw [HP.out];simp [ByteArray.data_append,ht.out]
 have e4 : (kd == 4) = false:=by simpa using h4
 clear hn h4n
 by_cases h5 : kd = 5
 ·subst h5
  have HP:=hid (show Tk.spell 5 tw.data.toList n = 34 :: (tw.data.toList ++ [34]) by unfold Tk.spell;rw [if_neg (by decide),if_neg (by decide),if_pos rfl])
  clear h3 h4
  go_enter Tryz.func11,Tryz.ntmps11
  go_wp2
  go_ret
  refine ⟨⟨_,hid ?_,rfl⟩,more_of_below (by repeat' (first | with_reducible (first | exact Below.refl _ _ | refine Below.alloc ?_ ?_ _) | go_size))⟩
  rw [HP.out];simp [ByteArray.data_append]
 have e5 : (kd == 5) = false:=by simpa using h5
 have HP:=hid (show Tk.spell kd tw.data.toList n = tw.data.toList by unfold Tk.spell;rw [if_neg h3,if_neg h4,if_neg h5])
 clear h3 h4 h5
 go_enter Tryz.func11,Tryz.ntmps11
 go_wp2
 go_ret
 exact ⟨⟨_,hid HP.out.symm,rfl⟩,more_of_below (by repeat' (first | with_reducible (first | exact Below.refl _ _ | refine Below.alloc ?_ ?_ _) | go_size))⟩
theorem bytes_extO {a b : ByteArray} (h : a.data.toList = b.data.toList) : a = b:=by
 cases a with
 | mk x => cases b with
  | mk y => simp only [ByteArray.mk.injEq];exact Array.toList_inj.1 h
theorem rOne_good (t : Tk.Tok) (w : World) (hg : Tk.Good t.1 t.2.1 t.2.2.1) (hs : t.2.1.length ≤ 64) :
  Calls Tryz.prog 11 #[.agg #[.int .i64 t.1,.string ⟨t.2.1.toArray⟩,.int .i64 t.2.2.1,.int .i64 t.2.2.2]] w fun e w' => e = .returned (.string ⟨(Tk.spell t.1 t.2.1 t.2.2.1).toArray⟩) ∧ ∃ g,w' = more w g:=by
 have hb : t.1 = 3 ∨ t.1 = 4 → -2147483648 ≤ t.2.2.1 ∧ t.2.2.1 < 2147483648:=by
  intro h
  rcases hg with ⟨h1,_⟩ | ⟨h1,_⟩ | ⟨_,_,h2,h3⟩ | ⟨_,_,h2,h3⟩ | ⟨h1,_⟩ | ⟨h1,_⟩ <;> omega
 have hb4 : t.1 = 4 → 0 ≤ t.2.2.1:=by
  intro h
  rcases hg with ⟨h1,_⟩ | ⟨h1,_⟩ | ⟨h1,_,h2,h3⟩ | ⟨_,_,h2,h3⟩ | ⟨h1,_⟩ | ⟨h1,_⟩ <;> omega
 refine (rOne_any t.1 t.2.2.1 t.2.2.2 ⟨t.2.1.toArray⟩ w (by show t.2.1.toArray.size ≤ _;simp;omega) hb hb4).mono ?_
 rintro e w' ⟨⟨str,H,rfl⟩,h2⟩
 refine ⟨?_,h2⟩
 rw [bytes_extO (a:=str) (b:=⟨(Tk.spell t.1 t.2.1 t.2.2.1).toArray⟩) (by rw [H.out])]
end Go.Proofs.YtlhmkfcbldghfaaGreatDoor
