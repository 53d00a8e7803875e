/- Digits as numbers,plain: what the library's ParseUint tells of at most nine bytes. No program in sight. Conditions: the text is short. -/
import Derived.Test.YthkegfdijohpaaaGreatDoorCnP
import Derived.Lib.ParseIntBCases
namespace Go.Proofs.YthkegfdijohpaaaGreatDoor
set_option linter.all false
namespace Cn
def fold(a:Nat)(l:List UInt8):Nat:=l.foldl (fun n c=>n * 10+Tk.dig c) a
theorem fold_val(l:List UInt8):fold 0 l=Tk.val 10 l:=rfl
theorem fold_top(l:List UInt8):∀ a,(∀ c∈l,Tk.digit c=true)→fold a l<(a+1) * 10 ^ l.length:=by
 induction l with
 | nil=>intro a _;simp [fold]
 | cons c t ih =>
  intro a hd
  have hc:=(dig_le (hd c (List.mem_cons_self ..))).1
  have:=ih (a * 10+Tk.dig c) (fun x hx=>hd x (List.mem_cons_of_mem _ hx))
  have e:fold a (c::t)=fold (a * 10+Tk.dig c) t:=rfl
  have h2:(a * 10+Tk.dig c+1) * 10 ^ t.length≤((a+1) * 10) * 10 ^ t.length:=Nat.mul_le_mul_right _ (by omega)
  rw [e,List.length_cons,Nat.pow_succ]
  have h3:(a+1) * 10 * 10 ^ t.length=(a+1) * (10 ^ t.length * 10):=by rw [Nat.mul_assoc,Nat.mul_comm 10]
  omega
theorem pm_ok(l:List UInt8):∀ a,(∀ c∈l,Tk.digit c=true)→(a+1) * 10 ^ l.length≤1000000000→Lib.parseUintM 4294967295 a l=.ok (fold a l):=by
 induction l with
 | nil=>intro a _ _;rfl
 | cons c t ih =>
  intro a hd hb
  have hdc:=hd c (List.mem_cons_self ..)
  have hc:=(digit_iff c).1 hdc
  have he:Tk.dig c=c.toNat - 48:=by unfold Tk.dig;rw [if_pos hc.2]
  rw [List.length_cons,Nat.pow_succ]at hb
  have hp:1≤10 ^ t.length:=Nat.one_le_pow _ _ (by decide)
  have h2:((a+1) * 10) * 10 ^ t.length≤1000000000:=by
   have h3:(a+1) * 10 * 10 ^ t.length=(a+1) * (10 ^ t.length * 10):=by rw [Nat.mul_assoc,Nat.mul_comm 10]
   omega
  have h4:(a+1) * 10≤1000000000:=Nat.le_trans (by have:=Nat.mul_le_mul_left ((a+1) * 10) hp;omega) h2
  have h5:(a * 10+Tk.dig c+1) * 10 ^ t.length≤1000000000:=Nat.le_trans (Nat.mul_le_mul_right _ (by have:=(dig_le hdc).1;omega)) h2
  rw [Lib.parseUintM,if_pos hc,if_neg (by omega),if_neg (by omega),← he]
  exact ih _ (fun x hx=>hd x (List.mem_cons_of_mem _ hx)) h5
theorem pm_no(l:List UInt8):∀ a,l.all Tk.digit=false→(a+1) * 10 ^ l.length≤1000000000→(∀ u,Lib.parseUintM 4294967295 a l ≠ .ok u)∧Lib.parseUintM 4294967295 a l ≠ .range:=by
 induction l with
 | nil=>intro a h _;simp at h
 | cons c t ih =>
  intro a hd hb
  by_cases hc:48≤c.toNat∧c.toNat≤57
  ·have hdc:Tk.digit c=true:=(digit_iff c).2 hc
   have he:Tk.dig c=c.toNat - 48:=by unfold Tk.dig;rw [if_pos hc.2]
   rw [List.length_cons,Nat.pow_succ]at hb
   have hp:1≤10 ^ t.length:=Nat.one_le_pow _ _ (by decide)
   have h2:((a+1) * 10) * 10 ^ t.length≤1000000000:=by
    have h3:(a+1) * 10 * 10 ^ t.length=(a+1) * (10 ^ t.length * 10):=by rw [Nat.mul_assoc,Nat.mul_comm 10]
    omega
   have h4:(a+1) * 10≤1000000000:=Nat.le_trans (by have:=Nat.mul_le_mul_left ((a+1) * 10) hp;omega) h2
   have h5:(a * 10+Tk.dig c+1) * 10 ^ t.length≤1000000000:=Nat.le_trans (Nat.mul_le_mul_right _ (by have:=(dig_le hdc).1;omega)) h2
   rw [Lib.parseUintM,if_pos hc,if_neg (by omega),if_neg (by omega),← he]
   exact ih _ (by simpa [hdc]using hd) h5
  ·rw [Lib.parseUintM,if_neg hc]
   exact⟨fun u h=>(by cases h),fun h=>(by cases h)⟩
def puC(s:List UInt8):Option Nat:=if s ≠ []∧s.all Tk.digit=true then some (Tk.val 10 s)else none
theorem pu_ok{s:List UInt8}{u:Nat}(hl:s.length≤9)(h:puC s=some u):Lib.parseUintB 32 s=.ok u∧u<1000000000:=by
 unfold puC at h
 split at h
 ·rename_i hh
  simp only [Option.some.injEq]at h
  subst h
  have hd:∀ c∈s,Tk.digit c=true:=by simpa using hh.2
  have hp:10 ^ s.length≤10 ^ 9:=Nat.pow_le_pow_right (by decide) hl
  have hb:(0+1) * 10 ^ s.length≤1000000000:=by simp at hp;omega
  unfold Lib.parseUintB
  rw [if_neg hh.1]
  refine⟨pm_ok s 0 hd hb,?_⟩
  have:=fold_top s 0 hd
  rw [fold_val]at this
  omega
 ·cases h
theorem pu_no{s:List UInt8}(hl:s.length≤9)(h:puC s=none):(∀ u,Lib.parseUintB 32 s ≠ .ok u)∧Lib.parseUintB 32 s ≠ .range:=by
 unfold puC at h
 split at h
 ·cases h
 ·rename_i hh
  unfold Lib.parseUintB
  by_cases hs:s=[]
  ·rw [if_pos hs]
   exact⟨fun u h=>(by cases h),fun h=>(by cases h)⟩
  ·rw [if_neg hs]
   have hp:10 ^ s.length≤10 ^ 9:=Nat.pow_le_pow_right (by decide) hl
   exact pm_no s 0 (by cases hd:s.all Tk.digit with|false=>rfl|true=>exact absurd ⟨hs,hd⟩ hh) (by simp at hp;omega)
def numO(s:List UInt8):Int × Bool:=match numC s with|some z=>(z,true)|none=>(0,false)
theorem numO_long{s:List UInt8}(h:9<s.length):numO s=(0,false):=by
 unfold numO numC;rw [if_neg (by omega)]
theorem numO_zero{s:List UInt8}(h:1<s.length)(h0:s.head?=some 48):numO s=(0,false):=by
 unfold numO numC;rw [if_neg (fun hh=>hh.2.2.1 ⟨h,h0⟩)]
theorem numO_pu{s:List UInt8}(h:s.length≤9)(h0:¬(1<s.length∧s.head?=some 48)):numO s=match puC s with|some u=>((u:Int),true)|none=>(0,false):=by
 unfold numO numC puC
 by_cases hs:s=[]
 ·subst hs;rfl
 ·have hl:1≤s.length:=by cases s with|nil=>exact absurd rfl hs|cons c t=>simp
  by_cases hd:s.all Tk.digit=true
  ·rw [if_pos ⟨hl,h,h0,hd⟩,if_pos ⟨hs,hd⟩]
  ·rw [if_neg (fun hh=>hd hh.2.2.2),if_neg (fun hh=>hd hh.2)]
end Cn
end Go.Proofs.YthkegfdijohpaaaGreatDoor
