/- The walks of the document's letter,digit,hexa,among,Key and Sign. Conditions: none but sizes. -/
import Derived.Test.YtlhmkfcbldghfaaGreatDoorTokE
import Derived.Test.YtlhmkfcbldghfaaGreatDoorTkC
namespace Go.Proofs.YtlhmkfcbldghfaaGreatDoor
set_option linter.all false
open Go.Lib (hid)
open Go.RowKit
theorem rdigit_any (c : UInt8) (w : World) : Calls Tryz.prog 62 #[.int .u8 c.toNat] w fun e w' => e = .returned (.bool (Tk.digit c)) ∧ w' = w:=by
 have h256 : c.toNat < 256:=c.toNat_lt
 obtain ⟨r,hr⟩ : ∃ r,Tk.digit c = r:=⟨_,rfl⟩
 rw [hr]
 replace hr:=hid hr
 by_cases h1 : (48 : Int) ≤ c.toNat
 ·by_cases h2 : (c.toNat : Int) ≤ 57
  ·have e : r = true:=by rw [← hr.out];simp [Tk.digit];omega
   subst e
   go_enter Tryz.func62,Tryz.ntmps62
   go_wp2
   go_ret
   first | exact ⟨rfl,rfl⟩ | exact ⟨by show Ending.returned (.bool (decide _)) = _;rw [decide_eq_false (by omega)],rfl⟩
  ·have e : r = false:=by rw [← hr.out];simp [Tk.digit];omega
   subst e
   have h3 : (57 : Int) < c.toNat:=by omega
   go_enter Tryz.func62,Tryz.ntmps62
   go_wp2
   go_ret
   first | exact ⟨rfl,rfl⟩ | exact ⟨by show Ending.returned (.bool (decide _)) = _;rw [decide_eq_false (by omega)],rfl⟩
 ·have e : r = false:=by rw [← hr.out];simp [Tk.digit];omega
  subst e
  have h3 : (c.toNat : Int) < 48:=by omega
  go_enter Tryz.func62,Tryz.ntmps62
  go_wp2
  go_ret
  first | exact ⟨rfl,rfl⟩ | exact ⟨by show Ending.returned (.bool (decide _)) = _;rw [decide_eq_false (by omega)],rfl⟩
theorem rletter_any (c : UInt8) (w : World) : Calls Tryz.prog 61 #[.int .u8 c.toNat] w fun e w' => e = .returned (.bool (Tk.letter c)) ∧ w' = w:=by
 have h256 : c.toNat < 256:=c.toNat_lt
 obtain ⟨r,hr⟩ : ∃ r,Tk.letter c = r:=⟨_,rfl⟩
 rw [hr]
 replace hr:=hid hr
 by_cases h1 : (97 : Int) ≤ c.toNat
 ·by_cases h2 : (c.toNat : Int) ≤ 122
  ·have e : r = true:=by rw [← hr.out];simp [Tk.letter];omega
   subst e
   go_enter Tryz.func61,Tryz.ntmps61
   go_wp2
   go_ret
   first | exact ⟨rfl,rfl⟩ | exact ⟨by show Ending.returned (.bool (decide _)) = _;rw [decide_eq_false (by omega)],rfl⟩
  ·have e : r = false:=by rw [← hr.out];simp [Tk.letter];omega
   subst e
   have h3 : (122 : Int) < c.toNat:=by omega
   have h4 : (65 : Int) ≤ c.toNat:=by omega
   have h5 : (90 : Int) < c.toNat:=by omega
   go_enter Tryz.func61,Tryz.ntmps61
   go_wp2
   go_ret
   first | exact ⟨rfl,rfl⟩ | exact ⟨by show Ending.returned (.bool (decide _)) = _;rw [decide_eq_false (by omega)],rfl⟩
 ·have h3 : (c.toNat : Int) < 97:=by omega
  by_cases h4 : (65 : Int) ≤ c.toNat
  ·by_cases h5 : (c.toNat : Int) ≤ 90
   ·have e : r = true:=by rw [← hr.out];simp [Tk.letter];omega
    subst e
    go_enter Tryz.func61,Tryz.ntmps61
    go_wp2
    go_ret
    first | exact ⟨rfl,rfl⟩ | exact ⟨by show Ending.returned (.bool (decide _)) = _;rw [decide_eq_false (by omega)],rfl⟩
   ·have e : r = false:=by rw [← hr.out];simp [Tk.letter];omega
    subst e
    have h6 : (90 : Int) < c.toNat:=by omega
    go_enter Tryz.func61,Tryz.ntmps61
    go_wp2
    go_ret
    first | exact ⟨rfl,rfl⟩ | exact ⟨by show Ending.returned (.bool (decide _)) = _;rw [decide_eq_false (by omega)],rfl⟩
  ·have e : r = false:=by rw [← hr.out];simp [Tk.letter];omega
   subst e
   have h6 : (c.toNat : Int) < 65:=by omega
   go_enter Tryz.func61,Tryz.ntmps61
   go_wp2
   go_ret
   first | exact ⟨rfl,rfl⟩ | exact ⟨by show Ending.returned (.bool (decide _)) = _;rw [decide_eq_false (by omega)],rfl⟩
theorem rdigit_at {c : UInt8} {r : Bool} (h : Tk.digit c = r) (w : World) : Calls Tryz.prog 62 #[.int .u8 c.toNat] w fun e w' => e = .returned (.bool r) ∧ w' = w:=by subst h;exact rdigit_any c w
theorem rletter_at {c : UInt8} {r : Bool} (h : Tk.letter c = r) (w : World) : Calls Tryz.prog 61 #[.int .u8 c.toNat] w fun e w' => e = .returned (.bool r) ∧ w' = w:=by subst h;exact rletter_any c w
theorem rhexa_any (c : UInt8) (w : World) : Calls Tryz.prog 107 #[.int .u8 c.toNat] w fun e w' => e = .returned (.bool (Tk.hexa c)) ∧ w' = w:=by
 have h256 : c.toNat < 256:=c.toNat_lt
 obtain ⟨r,hr⟩ : ∃ r,Tk.hexa c = r:=⟨_,rfl⟩
 rw [hr]
 cases hd : Tk.digit c
 ·have HD:=hid (rdigit_at hd)
  by_cases h1 : (65 : Int) ≤ c.toNat
  ·by_cases h2 : (c.toNat : Int) ≤ 70
   ·have e : r = true:=by rw [← hr];simp [Tk.hexa,hd];omega
    subst e
    clear hd hr
    go_enter Tryz.func107,Tryz.ntmps107
    go_wp2_with (go_at_call 62;(with_reducible refine (HD.out _).mono ?_);rintro e w' ⟨rfl,rfl⟩)
    go_ret
    first | exact ⟨rfl,rfl⟩ | exact ⟨by show Ending.returned (.bool (decide _)) = _;rw [decide_eq_false (by omega)],rfl⟩
   ·have e : r = false:=by rw [← hr];simp [Tk.hexa,hd];omega
    subst e
    have h3 : (70 : Int) < c.toNat:=by omega
    clear hd hr
    go_enter Tryz.func107,Tryz.ntmps107
    go_wp2_with (go_at_call 62;(with_reducible refine (HD.out _).mono ?_);rintro e w' ⟨rfl,rfl⟩)
    go_ret
    first | exact ⟨rfl,rfl⟩ | exact ⟨by show Ending.returned (.bool (decide _)) = _;rw [decide_eq_false (by omega)],rfl⟩
  ·have e : r = false:=by rw [← hr];simp [Tk.hexa,hd];omega
   subst e
   have h3 : (c.toNat : Int) < 65:=by omega
   clear hd hr
   go_enter Tryz.func107,Tryz.ntmps107
   go_wp2_with (go_at_call 62;(with_reducible refine (HD.out _).mono ?_);rintro e w' ⟨rfl,rfl⟩)
   go_ret
   first | exact ⟨rfl,rfl⟩ | exact ⟨by show Ending.returned (.bool (decide _)) = _;rw [decide_eq_false (by omega)],rfl⟩
 ·have HD:=hid (rdigit_at hd)
  have e : r = true:=by rw [← hr];simp [Tk.hexa,hd]
  subst e
  clear hd hr
  go_enter Tryz.func107,Tryz.ntmps107
  go_wp2_with (go_at_call 62;(with_reducible refine (HD.out _).mono ?_);rintro e w' ⟨rfl,rfl⟩)
  go_ret
  first | exact ⟨rfl,rfl⟩ | exact ⟨by show Ending.returned (.bool (decide _)) = _;rw [decide_eq_false (by omega)],rfl⟩
theorem rhexa_at {c : UInt8} {r : Bool} (h : Tk.hexa c = r) (w : World) : Calls Tryz.prog 107 #[.int .u8 c.toNat] w fun e w' => e = .returned (.bool r) ∧ w' = w:=by subst h;exact rhexa_any c w
theorem str_ne' {a b : ByteArray} (h : ¬ a = b) : (a.toList == b.toList) = false:=by
 rw [Bool.eq_false_iff]
 intro he
 apply h
 have h:=eq_of_beq he
 rw [ByteArray.toList_eq,ByteArray.toList_eq] at h
 cases a;cases b
 simp only [ByteArray.mk.injEq]
 exact Array.toList_inj.1 h
theorem among_any (s : ByteArray) (ls : List (List UInt8)) (b n : Nat) (w : World) (hn : ls.length = n) (h1 : n ≤ maxLen) (hc : ∀ k (h : k < ls.length),w.cell? ⟨b,k,none⟩ = some (.string ⟨ls[k].toArray⟩)) :
  Calls Tryz.prog 106 #[.string s,.slice (some ⟨b,0,none⟩) n n] w fun e w' => e = .returned (.bool (decide (s.data.toList ∈ ls))) ∧ w' = w:=by
 subst hn
 have hl64 : ls.length ≤ 9223372036854775807:=by unfold maxLen at h1;omega
 have HC:=hid hc
 clear hc h1
 go_enter Tryz.func106,Tryz.ntmps106
 go_wp2
 go_loop [5] (fun i => ∃ k : Nat,k ≤ ls.length ∧ i = .int .i64 k ∧ Hid (decide (s.data.toList ∈ ls.drop k) = decide (s.data.toList ∈ ls))) (fun i => ls.length - (intOf i).toNat)
 case atStart => exact ⟨0,by omega,rfl,hid rfl⟩
 case round =>
  obtain ⟨k,hk,rfl,H⟩:=hrel
  by_cases hlt : k < ls.length
  ·have ck:=HC.out k hlt
   have HD:=hid (List.drop_eq_getElem_cons (l:=ls) (i:=k) hlt)
   generalize ls[k] = l at *
   by_cases he : (⟨l.toArray⟩ : ByteArray) = s
   ·have hl : s.data.toList = l:=by rw [← he]
    have HN:=hid (show decide (s.data.toList ∈ ls) = true by rw [← H.out,HD.out,hl];simp)
    rw [he] at ck
    clear he H HD hl
    go_wp2
    go_ret
    exact ⟨by rw [HN.out];rfl,rfl⟩
   ·have hl : ¬ s.data.toList = l:=fun h => he (by rw [← h,bytes_self])
    have HN:=hid (show decide (s.data.toList ∈ ls.drop (k + 1)) = decide (s.data.toList ∈ ls) by rw [← H.out,HD.out];simp [hl])
    obtain ⟨z,hz⟩ : ∃ z : ByteArray,z = ⟨l.toArray⟩:=⟨_,rfl⟩
    rw [← hz] at ck he
    have hne : (z.toList == s.toList) = false:=str_ne' he
    clear he H HD hl hz
    go_wp2
    refine ⟨⟨k + 1,by omega,by simp,HN⟩,by simp [intOf];omega⟩
  ·have hke : k = ls.length:=by omega
   subst hke
   have HN:=hid (show decide (s.data.toList ∈ ls) = false by rw [← H.out];simp)
   clear H
   go_wp2
   go_ret
   exact ⟨by rw [HN.out];rfl,rfl⟩
theorem lit_cells (ls : List (List UInt8)) (w : World) (cs : Array Value) (h : cs = strCells ls) (k : Nat) (hk : k < ls.length) : (w.alloc (.cells cs 9)).cell? ⟨w.heap.size,k,none⟩ = some (.string ⟨ls[k].toArray⟩):=by
 subst h
 rw [← strCells_at ls k hk]
 simp [go_sem]
theorem rKey_any (s : ByteArray) (w : World) : Calls Tryz.prog 63 #[.string s] w fun e w' => e = .returned (.bool (decide (s.data.toList ∈ Tk.keys))) ∧ ∃ g,w' = more w g:=by
 go_enter Tryz.func63,Tryz.ntmps63
 go_wp2_with (go_at_call 106;(with_reducible refine (among_any s Tk.keys _ 33 _ Tk.keys_len ?_ ?_).mono ?_);(focus decide);(focus (exact lit_cells Tk.keys _ _ (by kernel_rfl)));rintro e w' ⟨rfl,rfl⟩)
 go_ret
 exact ⟨rfl,more_of_below (by repeat' (first | with_reducible (first | exact Below.refl _ _ | refine Below.alloc ?_ ?_ _) | go_size))⟩
theorem rSign_any (s : ByteArray) (w : World) : Calls Tryz.prog 65 #[.string s] w fun e w' => e = .returned (.bool (decide (s.data.toList ∈ Tk.sgs))) ∧ ∃ g,w' = more w g:=by
 go_enter Tryz.func65,Tryz.ntmps65
 go_wp2_with (go_at_call 106;(with_reducible refine (among_any s Tk.sgs _ 26 _ Tk.sgs_len ?_ ?_).mono ?_);(focus decide);(focus (exact lit_cells Tk.sgs _ _ (by kernel_rfl)));rintro e w' ⟨rfl,rfl⟩)
 go_ret
 exact ⟨rfl,more_of_below (by repeat' (first | with_reducible (first | exact Below.refl _ _ | refine Below.alloc ?_ ?_ _) | go_size))⟩
end Go.Proofs.YtlhmkfcbldghfaaGreatDoor
