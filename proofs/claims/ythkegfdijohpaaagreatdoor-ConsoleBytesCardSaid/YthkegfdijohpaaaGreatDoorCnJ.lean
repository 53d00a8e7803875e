/- The walks of the document's number,bytes,Hexa. Conditions: the text's size is bounded. -/
import Derived.Test.YthkegfdijohpaaaGreatDoorCnI
namespace Go.Proofs.YthkegfdijohpaaaGreatDoor
set_option linter.all false
open Go.Lib (hid)
set_option maxRecDepth 1000000
set_option maxHeartbeats 16000000
open Go.RowKit
namespace Cn
theorem dig_of{c:UInt8}(h:Tk.digit c=true):(Tk.dig c:Int)=(c.toNat:Int) - 48:=by
 have h2:=(digit_iff c).1 h
 unfold Tk.dig
 rw [if_pos h2.2];omega
theorem val_top(l:List UInt8)(h:∀ c∈l,Tk.digit c=true):Tk.val 10 l<10 ^ l.length:=by
 have:=fold_top l 0 h
 rw [fold_val]at this;omega
theorem take_snoc'(s:ByteArray)(k:Nat)(h:k<s.size):s.data.toList.take (k+1)=s.data.toList.take k++[s[k]]:=by
 rw [List.take_add_one,List.getElem?_eq_getElem (by simpa using h)];rfl
structure NSt(s:ByteArray)(k:Nat)(n:Int):Prop where
 val:n=(Tk.val 10 (s.data.toList.take k):Nat)
 all:∀ c∈s.data.toList.take k,Tk.digit c=true
theorem nst_le{s:ByteArray}{k:Nat}{n:Int}(h:NSt s k n)(hk:k≤9):0≤n∧n<1000000000:=by
 have:=val_top _ h.all
 have h2:(s.data.toList.take k).length≤k:=List.length_take_le _ _
 have h3:10 ^ (s.data.toList.take k).length≤10 ^ 9:=Nat.pow_le_pow_right (by decide) (by omega)
 have:=h.val
 rw [show(10:Nat) ^ 9=1000000000 by decide]at h3
 omega
theorem nst_next{s:ByteArray}{k:Nat}{n:Int}(h:NSt s k n)(hk:k<s.size)(hd:Tk.digit (s[k]'hk)=true):NSt s (k+1) (n * 10+((s[k]'hk).toNat - 48:Int)):=by
 refine⟨?_,fun c hc=>?_⟩
 ·rw [take_snoc' s k hk,Tk.val_snoc,h.val]
  have:=dig_of hd
  omega
 ·rw [take_snoc' s k hk]at hc
  rcases List.mem_append.1 hc with h2|h2
  ·exact h.all c h2
  ·simp at h2;rw [h2];exact hd
end Cn
theorem rnum_short(s:ByteArray)(w:World)(h:(s.size:Int)<1):Calls Tryz.prog 19 #[.string s] w fun e w'=>e=.returned (.tuple #[.int .i64 0,.bool false])∧w'=w:=by
 go_enter Tryz.func19,Tryz.ntmps19
 go_wp2
 go_ret2
 exact⟨rfl,rfl⟩
theorem rnum_long(s:ByteArray)(w:World)(h:(9:Int)<(s.size:Int)):Calls Tryz.prog 19 #[.string s] w fun e w'=>e=.returned (.tuple #[.int .i64 0,.bool false])∧w'=w:=by
 have h1:(1:Int)≤(s.size:Int):=by omega
 go_enter Tryz.func19,Tryz.ntmps19
 go_wp2
 go_ret2
 exact⟨rfl,rfl⟩
theorem rnum_zero(s:ByteArray)(w:World)(h1:(1:Int)<(s.size:Int))(h9:(s.size:Int)≤9)(hp:0<s.size)(h0:((s[0]'hp).toNat:Int)=48):Calls Tryz.prog 19 #[.string s] w fun e w'=>e=.returned (.tuple #[.int .i64 0,.bool false])∧w'=w:=by
 have h2:(1:Int)≤(s.size:Int):=by omega
 go_enter Tryz.func19,Tryz.ntmps19
 go_wp2
 go_ret2
 exact⟨rfl,rfl⟩
def RGoes(s:ByteArray):Prop:=(s.size:Int)≤1∨((1:Int)<(s.size:Int)∧∃ hp:0<s.size,(((s[0]'hp).toNat:Int) == 48)=false)
theorem rnum_goes(s:ByteArray)(w:World)(h1:(1:Int)≤(s.size:Int))(h9:(s.size:Int)≤9)(h:RGoes s) :
  Calls Tryz.prog 19 #[.string s] w fun e w'=>e=.returned (.tuple #[.int .i64 (match Cn.puC s.data.toList with|some u=>(u:Int)|none=>0),.bool (Cn.puC s.data.toList).isSome])∧w'=w:=by
 obtain⟨X,hX⟩:∃ X:Int,X=(match Cn.puC s.data.toList with|some u=>(u:Int)|none=>0):=⟨_,rfl⟩
 obtain⟨Y,hY⟩:∃ Y:Bool,Y=(Cn.puC s.data.toList).isSome:=⟨_,rfl⟩
 rw [← hX,← hY]
 have HXY:=hid (And.intro hX hY)
 clear hX hY
 rcases h with h|⟨h,hp,h0⟩
 all_goals
  go_enter Tryz.func19,Tryz.ntmps19
  go_wp2
  go_loop [4,5] (fun n i=>∃(k:Nat) (z:Int),k≤s.size∧i=.int .i64 k∧n=.int .i64 z∧Hid (Cn.NSt s k z)) (fun _ i=>s.size - (intOf i).toNat)
  case atStart=>exact⟨0,0,by omega,rfl,rfl,hid ⟨by simp;rfl,by simp⟩⟩
  case round =>
   obtain⟨k,z,hk,rfl,rfl,H⟩:=hrel
   have hzb:=Cn.nst_le H.out (by omega)
   by_cases hlt:k<s.size
   ·have kk:(k:Int)<(s.size:Int):=by omega
    have hN:=fun hd=>Cn.nst_next H.out hlt hd
    have h256:=(s[k]'hlt).toNat_lt
    have hno:Tk.digit (s[k]'hlt)=false→Cn.puC s.data.toList=none:=fun hd=>by
     unfold Cn.puC
     rw [if_neg]
     rintro⟨_,ha⟩
     have:=(List.all_eq_true.1 ha) (s[k]'hlt) (List.getElem_mem (l:=s.data.toList) (n:=k) (by simpa using hlt))
     rw [hd]at this;cases this
    by_cases hd:Tk.digit (s[k]'hlt)=true
    ·have h2:=(Cn.digit_iff _).1 hd
     have HX:=hid (hN hd)
     clear hN hno hd H
     generalize hc:s[k]'hlt=c at *
     have i1:(48:Int)≤(c.toNat:Int):=by omega
     have i2:(c.toNat:Int)≤57:=by omega
     clear h2
     go_wp2
     go_round
     case rel=>exact⟨k+1,_,by omega,by go_num,rfl,HX⟩
     case measure=>simp [intOf];omega
    ·have hn:=hno (by simpa using hd)
     have HN:=hid hn
     have h2:(s[k]'hlt).toNat<48∨57<(s[k]'hlt).toNat:=by
      have:¬(48≤(s[k]'hlt).toNat∧(s[k]'hlt).toNat≤57):=fun hh=>hd ((Cn.digit_iff _).2 hh)
      omega
     clear hN hno hd H hn
     generalize hc:s[k]'hlt=c at *
     rcases h2 with h2|h2
     ·have i1:(c.toNat:Int)<48:=by omega
      clear h2
      go_wp2
      go_ret2
      exact⟨by rw [HXY.out.1,HXY.out.2,HN.out];rfl,rfl⟩
     ·have i1:(57:Int)<(c.toNat:Int):=by omega
      have i2:(48:Int)≤(c.toNat:Int):=by omega
      clear h2
      go_wp2
      go_ret2
      exact⟨by rw [HXY.out.1,HXY.out.2,HN.out];rfl,rfl⟩
   ·have hke:k=s.size:=by omega
    subst hke
    have HN:=hid (show Cn.puC s.data.toList=some z.toNat∧(z.toNat:Int)=z by
     have ha:=H.out.all
     have hv:=H.out.val
     rw [List.take_of_length_le (by simp)]at ha hv
     refine⟨?_,by omega⟩
     unfold Cn.puC
     have hne:s.data.toList ≠ []:=fun e=>by
      have h3:s.data.toList.length=s.size:=by simp
      rw [e]at h3
      simp at h3
      omega
     rw [if_pos ⟨hne,List.all_eq_true.2 ha⟩,hv]
     simp)
    clear H
    go_wp2
    go_ret2
    exact⟨by rw [HXY.out.1,HXY.out.2,HN.out.1];simp only [HN.out.2];rfl,rfl⟩
theorem rnum_any(s:ByteArray)(w:World):Calls Tryz.prog 19 #[.string s] w fun e w'=>e=.returned (.tuple #[.int .i64 (Cn.numO s.data.toList).1,.bool (Cn.numO s.data.toList).2])∧w'=w:=by
 have hsl:s.data.toList.length=s.size:=by simp
 by_cases h9:9<s.size
 ·rw [Cn.numO_long (by omega)]
  exact rnum_long s w (by omega)
 ·by_cases h1:s.size<1
  ·have:s.data.toList=[]:=List.eq_nil_of_length_eq_zero (by omega)
   rw [this]
   exact rnum_short s w (by omega)
  ·by_cases hz:1<s.data.toList.length∧s.data.toList.head?=some 48
   ·rw [Cn.numO_zero hz.1 hz.2]
    have hp:0<s.size:=by omega
    refine rnum_zero s w (by omega) (by omega) hp ?_
    have:=hz.2
    rw [List.head?_eq_getElem?,List.getElem?_eq_getElem (by omega)]at this
    have h2:s[0]'hp=48:=Option.some.inj this
    rw [h2];rfl
   ·have hgo:RGoes s:=by
     by_cases h1:s.size≤1
     ·exact .inl (by omega)
     ·have hp:0<s.size:=by omega
      refine .inr ⟨by omega,hp,?_⟩
      rw [beq_eq_false_iff_ne]
      intro h
      refine hz ⟨by omega,?_⟩
      rw [List.head?_eq_getElem?,List.getElem?_eq_getElem (by omega)]
      have h2:s[0]'hp=48:=UInt8.toNat_inj.1 (show(s[0]'hp).toNat=48 by omega)
      exact congrArg some h2
    rw [Cn.numO_pu (by omega) hz]
    refine(rnum_goes s w (by omega) (by omega) hgo).mono fun e w' ⟨he,hw⟩=>⟨?_,hw⟩
    rw [he]
    cases Cn.puC s.data.toList <;> rfl
end Go.Proofs.YthkegfdijohpaaaGreatDoor
