/- The walks of store's Name and of the document's: is a text a name? Conditions: none. -/
import Derived.Test.YthkegfdijohpaaaGreatDoorCnP
import Derived.Test.YthkegfdijohpaaaGreatDoorChecked
import Derived.Test.YthkegfdijohpaaaGreatDoorMoreX
import Derived.BigQuiet
import Derived.Deep.QuietTactic
import Derived.Handy
import Derived.Lib.Hide
namespace Go.Proofs.YthkegfdijohpaaaGreatDoor
set_option linter.all false
open Go.Lib (hid)
set_option maxRecDepth 1000000
set_option maxHeartbeats 16000000
open Go.RowKit
namespace Cn
theorem ne_b{c:UInt8}{n:Nat}(hn:n<256)(h:c.toNat ≠ n):((c.toNat:Int) == (n:Int))=false:=by rw [beq_eq_false_iff_ne];omega
theorem at_drop(s:ByteArray)(k:Nat)(hk:k<s.size):s.data.toList.drop k=s[k]'hk::s.data.toList.drop (k+1):=by
 rw [List.drop_eq_getElem_cons (by simpa using hk)];rfl
theorem at_zero(s:ByteArray)(hk:0<s.size):s.data.toList=s[0]'hk::s.data.toList.drop 1:=by
 have:=at_drop s 0 hk
 simpa using this
end Cn
theorem letter_any(c:UInt8)(w:World):Calls Tryz.prog 51 #[.int .u8 (c.toNat:Int)] w fun e w'=>e=.returned (.bool (Cn.letter c))∧w'=w:=by
 have h256:=c.toNat_lt
 have h5:c.toNat<65∨(65≤c.toNat∧c.toNat≤90)∨(90<c.toNat∧c.toNat<97)∨(97≤c.toNat∧c.toNat≤122)∨122<c.toNat:=by omega
 rcases h5 with h|⟨h,h1⟩|⟨h,h1⟩|⟨h,h1⟩|h
 ·have hb:Cn.letter c=false:=by simp [Cn.letter];omega
  have i1:(c.toNat:Int)<65:=by omega
  have i2:(c.toNat:Int)<97:=by omega
  rw [hb]
  clear h256 h hb
  go_enter Tryz.func51,Tryz.ntmps51
  go_wp2
  go_ret
  exact⟨by first|rfl|(simp;omega),rfl⟩
 ·have hb:Cn.letter c=true:=by simp [Cn.letter];omega
  have i1:(65:Int)≤(c.toNat:Int):=by omega
  have i3:(c.toNat:Int)≤90:=by omega
  have i2:(c.toNat:Int)<97:=by omega
  rw [hb]
  clear h256 h h1 hb
  go_enter Tryz.func51,Tryz.ntmps51
  go_wp2
  go_ret
  exact⟨by first|rfl|(simp;omega),rfl⟩
 ·have hb:Cn.letter c=false:=by simp [Cn.letter];omega
  have i1:(65:Int)≤(c.toNat:Int):=by omega
  have i3:(90:Int)<(c.toNat:Int):=by omega
  have i2:(c.toNat:Int)<97:=by omega
  rw [hb]
  clear h256 h h1 hb
  go_enter Tryz.func51,Tryz.ntmps51
  go_wp2
  go_ret
  exact⟨by first|rfl|(simp;omega),rfl⟩
 ·have hb:Cn.letter c=true:=by simp [Cn.letter];omega
  have i1:(97:Int)≤(c.toNat:Int):=by omega
  have i3:(c.toNat:Int)≤122:=by omega
  rw [hb]
  clear h256 h h1 hb
  go_enter Tryz.func51,Tryz.ntmps51
  go_wp2
  go_ret
  exact⟨by first|rfl|(simp;omega),rfl⟩
 ·have hb:Cn.letter c=false:=by simp [Cn.letter];omega
  have i1:(122:Int)<(c.toNat:Int):=by omega
  have i2:(97:Int)≤(c.toNat:Int):=by omega
  have i3:(65:Int)≤(c.toNat:Int):=by omega
  have i4:(90:Int)<(c.toNat:Int):=by omega
  rw [hb]
  clear h256 h hb
  go_enter Tryz.func51,Tryz.ntmps51
  go_wp2
  go_ret
  exact⟨by first|rfl|(simp;omega),rfl⟩
theorem name_empty(s:ByteArray)(w:World)(h:s.size=0):Calls Tryz.prog 31 #[.string s] w fun e w'=>e=.returned (.bool false)∧w'=w:=by
 have h0:(s.size:Int)=0:=by omega
 have h1:(s.size:Int)<1:=by omega
 clear h
 go_enter Tryz.func31,Tryz.ntmps31
 go_wp2
 go_ret
 exact⟨rfl,rfl⟩
theorem name_long(s:ByteArray)(w:World)(h:24<s.size):Calls Tryz.prog 31 #[.string s] w fun e w'=>e=.returned (.bool false)∧w'=w:=by
 have h0:(24:Int)<(s.size:Int):=by omega
 have h1:(1:Int)≤(s.size:Int):=by omega
 have h2:((s.size:Int) == 0)=false:=by rw [beq_eq_false_iff_ne];omega
 clear h
 go_enter Tryz.func31,Tryz.ntmps31
 go_wp2
 go_ret
 exact⟨rfl,rfl⟩
theorem name_head(s:ByteArray)(w:World)(h:s.size≤24)(hp:0<s.size)(hl:Cn.letter (s[0]'hp)=false):Calls Tryz.prog 31 #[.string s] w fun e w'=>e=.returned (.bool false)∧w'=w:=by
 have h0:(s.size:Int)≤24:=by omega
 have h1:(1:Int)≤(s.size:Int):=by omega
 have h2:((s.size:Int) == 0)=false:=by rw [beq_eq_false_iff_ne];omega
 have HL:=hid (fun u=>letter_any (s[0]'hp) u)
 rw [hl]at HL
 clear h hl
 go_enter Tryz.func31,Tryz.ntmps31
 go_wp2_with (go_at_call 51;(with_reducible refine(HL.out _).mono ?_);rintro e w2 ⟨rfl,rfl⟩)
 go_ret
 exact⟨rfl,rfl⟩
theorem name_body(s:ByteArray)(w:World)(h:s.size≤24)(hp:0<s.size)(hl:Cn.letter (s[0]'hp)=true):Calls Tryz.prog 31 #[.string s] w fun e w'=>e=.returned (.bool (s.data.toList.all Cn.inName))∧w'=w:=by
 have h0:(s.size:Int)≤24:=by omega
 have h1:(1:Int)≤(s.size:Int):=by omega
 have h2:((s.size:Int) == 0)=false:=by rw [beq_eq_false_iff_ne];omega
 have HL0:=hid (fun u=>letter_any (s[0]'hp) u)
 rw [hl]at HL0
 have HLn:=hid (fun c u=>letter_any c u)
 clear h hl
 go_enter Tryz.func31,Tryz.ntmps31
 go_wp2_with (go_at_call 51;(with_reducible refine(HL0.out _).mono ?_);rintro e w2 ⟨rfl,hw2⟩;have hw3:=hw2.symm;subst hw3)
 go_loopw [21] (fun i wr=>∃ k:Nat,k≤s.size∧i=.int .i64 k∧Hid (s.data.toList.all Cn.inName=(s.data.toList.drop k).all Cn.inName)∧wr=w) (fun i _=>s.size - (intOf i).toNat)
 case atStart=>exact⟨0,by omega,rfl,hid (by simp),rfl⟩
 case round =>
  obtain⟨k,hk,rfl,HA,rfl⟩:=hrel
  by_cases hlt:k<s.size
  ·have hdr:=Cn.at_drop s k hlt
   have hA:=HA.out
   rw [hdr,List.all_cons]at hA
   have HL:=fun u=>HLn.out (s[k]'hlt) u
   have kk:(k:Int)<(s.size:Int):=by omega
   have h256:=(s[k]'hlt).toNat_lt
   generalize hc:s[k]'hlt=c at *
   by_cases hin:Cn.inName c=true
   ·rw [hin,Bool.true_and]at hA
    have HA2:=hid hA
    cases hlc:Cn.letter c
    ·rw [hlc]at HL
     replace HL:=hid HL
     have h3:(48≤c.toNat∧c.toNat≤57)∨c.toNat=46:=by simpa [Cn.inName,hlc]using hin
     rcases h3 with⟨h3,h4⟩|h3
     ·have i1:(48:Int)≤(c.toNat:Int):=by omega
      have i2:(c.toNat:Int)≤57:=by omega
      clear hA hin hdr HA h3 h4 hlc h256
      go_wp2_with (go_at_call 51;(with_reducible refine(HL.out _).mono ?_);rintro e w2 ⟨rfl,hw2⟩;have hw3:=hw2.symm;subst hw3)
      go_roundw
      case rel=>exact⟨k+1,by omega,by go_num,HA2,by first|rfl|trivial⟩
      case measure=>simp [intOf];omega
     ·have i1:(c.toNat:Int)=46:=by omega
      have HLx:=HL.out
      simp only [i1]at HLx
      replace HL:=hid HLx
      clear HLx
      clear hA hin hdr HA h3 hlc h256
      go_wp2_with (go_at_call 51;(with_reducible refine(HL.out _).mono ?_);rintro e w2 ⟨rfl,hw2⟩;have hw3:=hw2.symm;subst hw3)
      go_roundw
      case rel=>exact⟨k+1,by omega,by go_num,HA2,by first|rfl|trivial⟩
      case measure=>simp [intOf];omega
    ·rw [hlc]at HL
     replace HL:=hid HL
     clear hA hin hdr HA hlc h256
     go_wp2_with (go_at_call 51;(with_reducible refine(HL.out _).mono ?_);rintro e w2 ⟨rfl,hw2⟩;have hw3:=hw2.symm;subst hw3)
     go_roundw
     case rel=>exact⟨k+1,by omega,by go_num,HA2,by first|rfl|trivial⟩
     case measure=>simp [intOf];omega
   ·have hin0:Cn.inName c=false:=by simpa using hin
    rw [hin0,Bool.false_and]at hA
    have HA2:=hid hA
    have hlc:Cn.letter c=false:=by
     cases h:Cn.letter c
     ·rfl
     ·simp [Cn.inName,h]at hin0
    rw [hlc]at HL
    replace HL:=hid HL
    have h3:(c.toNat<48∨57<c.toNat)∧c.toNat ≠ 46:=by simp [Cn.inName,hlc]at hin0;omega
    obtain⟨h4,h5⟩:=h3
    have i3:((c.toNat:Int) == 46)=false:=Cn.ne_b (by decide) h5
    rcases h4 with h4|h4
    ·have i1:(c.toNat:Int)<48:=by omega
     clear hA hin hin0 hdr HA hlc h256 h4 h5
     go_wp2_with (go_at_call 51;(with_reducible refine(HL.out _).mono ?_);rintro e w2 ⟨rfl,hw2⟩;have hw3:=hw2.symm;subst hw3)
     go_ret
     exact⟨by rw [HA2.out];rfl,rfl⟩
    ·have i1:(57:Int)<(c.toNat:Int):=by omega
     have i2:(48:Int)≤(c.toNat:Int):=by omega
     clear hA hin hin0 hdr HA hlc h256 h4 h5
     go_wp2_with (go_at_call 51;(with_reducible refine(HL.out _).mono ?_);rintro e w2 ⟨rfl,hw2⟩;have hw3:=hw2.symm;subst hw3)
     go_ret
     exact⟨by rw [HA2.out];rfl,rfl⟩
  ·have hks:k=s.size:=by omega
   subst hks
   have HA2:=hid (show s.data.toList.all Cn.inName=true by rw [HA.out,List.drop_eq_nil_of_le (by simp)];rfl)
   clear HA
   go_wp2
   go_ret
   exact⟨by rw [HA2.out];rfl,rfl⟩
theorem name_same(s:ByteArray)(w:World):Calls Tryz.prog 31 #[.string s] w fun e w'=>e=.returned (.bool (Cn.nameC s.data.toList))∧w'=w:=by
 have hsl:s.data.toList.length=s.size:=by simp
 by_cases h0:s.size=0
 ·have:s.data.toList=[]:=List.eq_nil_of_length_eq_zero (by omega)
  rw [this]
  exact name_empty s w h0
 ·have hp:0<s.size:=by omega
  have hz:=Cn.at_zero s hp
  have hN:Cn.nameC s.data.toList=(decide (s.data.toList.length≤24) && Cn.letter (s[0]'hp) && s.data.toList.all Cn.inName):=by
   conv=>lhs;rw [hz]
   simp only [Cn.nameC,← hz]
  by_cases h1:24<s.size
  ·rw [hN,decide_eq_false (by omega),Bool.false_and,Bool.false_and]
   exact name_long s w h1
  ·rw [hN,decide_eq_true (by omega),Bool.true_and]
   cases hl:Cn.letter (s[0]'hp)
   ·rw [Bool.false_and]
    exact name_head s w (by omega) hp hl
   ·rw [Bool.true_and]
    exact name_body s w (by omega) hp hl
theorem name_any(s:ByteArray)(w:World):Calls Tryz.prog 31 #[.string s] w fun e w'=>e=.returned (.bool (Cn.nameC s.data.toList))∧∃ g,w'=more w g:=
 (name_same s w).mono fun _ _ ⟨he,hw⟩=>⟨he,hw ▸ more_refl w⟩
theorem rletter_any(c:UInt8)(w:World):Calls Tryz.prog 33 #[.int .u8 (c.toNat:Int)] w fun e w'=>e=.returned (.bool (Cn.letter c))∧w'=w:=by
 have h256:=c.toNat_lt
 have h5:c.toNat<65∨(65≤c.toNat∧c.toNat≤90)∨(90<c.toNat∧c.toNat<97)∨(97≤c.toNat∧c.toNat≤122)∨122<c.toNat:=by omega
 rcases h5 with h|⟨h,h1⟩|⟨h,h1⟩|⟨h,h1⟩|h
 ·have hb:Cn.letter c=false:=by simp [Cn.letter];omega
  have i1:(c.toNat:Int)<65:=by omega
  have i2:(c.toNat:Int)<97:=by omega
  rw [hb]
  clear h256 h hb
  go_enter Tryz.func33,Tryz.ntmps33
  go_wp2
  go_ret
  exact⟨by first|rfl|(simp;omega),rfl⟩
 ·have hb:Cn.letter c=true:=by simp [Cn.letter];omega
  have i1:(65:Int)≤(c.toNat:Int):=by omega
  have i3:(c.toNat:Int)≤90:=by omega
  have i2:(c.toNat:Int)<97:=by omega
  rw [hb]
  clear h256 h h1 hb
  go_enter Tryz.func33,Tryz.ntmps33
  go_wp2
  go_ret
  exact⟨by first|rfl|(simp;omega),rfl⟩
 ·have hb:Cn.letter c=false:=by simp [Cn.letter];omega
  have i1:(65:Int)≤(c.toNat:Int):=by omega
  have i3:(90:Int)<(c.toNat:Int):=by omega
  have i2:(c.toNat:Int)<97:=by omega
  rw [hb]
  clear h256 h h1 hb
  go_enter Tryz.func33,Tryz.ntmps33
  go_wp2
  go_ret
  exact⟨by first|rfl|(simp;omega),rfl⟩
 ·have hb:Cn.letter c=true:=by simp [Cn.letter];omega
  have i1:(97:Int)≤(c.toNat:Int):=by omega
  have i3:(c.toNat:Int)≤122:=by omega
  rw [hb]
  clear h256 h h1 hb
  go_enter Tryz.func33,Tryz.ntmps33
  go_wp2
  go_ret
  exact⟨by first|rfl|(simp;omega),rfl⟩
 ·have hb:Cn.letter c=false:=by simp [Cn.letter];omega
  have i1:(122:Int)<(c.toNat:Int):=by omega
  have i2:(97:Int)≤(c.toNat:Int):=by omega
  have i3:(65:Int)≤(c.toNat:Int):=by omega
  have i4:(90:Int)<(c.toNat:Int):=by omega
  rw [hb]
  clear h256 h hb
  go_enter Tryz.func33,Tryz.ntmps33
  go_wp2
  go_ret
  exact⟨by first|rfl|(simp;omega),rfl⟩
theorem rname_empty(s:ByteArray)(w:World)(h:s.size=0):Calls Tryz.prog 20 #[.string s] w fun e w'=>e=.returned (.bool false)∧∃ g,w'=more w g:=by
 have h0:(s.size:Int)=0:=by omega
 have h1:(s.size:Int)<1:=by omega
 clear h
 go_enter Tryz.func20,Tryz.ntmps20
 go_wp2
 go_ret
 exact⟨rfl,more_refl _⟩
theorem rname_long(s:ByteArray)(w:World)(h:24<s.size):Calls Tryz.prog 20 #[.string s] w fun e w'=>e=.returned (.bool false)∧∃ g,w'=more w g:=by
 have h0:(24:Int)<(s.size:Int):=by omega
 have h1:(1:Int)≤(s.size:Int):=by omega
 have h2:((s.size:Int) == 0)=false:=by rw [beq_eq_false_iff_ne];omega
 clear h
 go_enter Tryz.func20,Tryz.ntmps20
 go_wp2
 go_ret
 exact⟨rfl,more_refl _⟩
theorem rname_head(s:ByteArray)(w:World)(h:s.size≤24)(hp:0<s.size)(hl:Cn.letter (s[0]'hp)=false):Calls Tryz.prog 20 #[.string s] w fun e w'=>e=.returned (.bool false)∧∃ g,w'=more w g:=by
 have h0:(s.size:Int)≤24:=by omega
 have h1:(1:Int)≤(s.size:Int):=by omega
 have h2:((s.size:Int) == 0)=false:=by rw [beq_eq_false_iff_ne];omega
 have HL:=hid (fun u=>rletter_any (s[0]'hp) u)
 rw [hl]at HL
 clear h hl
 go_enter Tryz.func20,Tryz.ntmps20
 go_wp2_with (go_at_call 33;(with_reducible refine(HL.out _).mono ?_);rintro e w2 ⟨rfl,rfl⟩)
 go_ret
 exact⟨rfl,more_refl _⟩
theorem rname_body(s:ByteArray)(w:World)(h:s.size≤24)(hp:0<s.size)(hl:Cn.letter (s[0]'hp)=true):Calls Tryz.prog 20 #[.string s] w fun e w'=>e=.returned (.bool (s.data.toList.all Cn.inName))∧∃ g,w'=more w g:=by
 have h0:(s.size:Int)≤24:=by omega
 have h1:(1:Int)≤(s.size:Int):=by omega
 have h2:((s.size:Int) == 0)=false:=by rw [beq_eq_false_iff_ne];omega
 have HL0:=hid (fun u=>rletter_any (s[0]'hp) u)
 rw [hl]at HL0
 have HLn:=hid (fun c u=>rletter_any c u)
 clear h hl
 go_enter Tryz.func20,Tryz.ntmps20
 go_wp2_with (go_at_call 33;(with_reducible refine(HL0.out _).mono ?_);rintro e w2 ⟨rfl,hw2⟩;have hw3:=hw2.symm;subst hw3)
 go_loopw [3] (fun i wr=>∃ k:Nat,k≤s.size∧i=.int .i64 k∧Hid (s.data.toList.all Cn.inName=(s.data.toList.drop k).all Cn.inName)∧∃ g,wr=more w g) (fun i _=>s.size - (intOf i).toNat)
 case atStart=>exact⟨0,by omega,rfl,hid (by simp),more_refl _⟩
 case round =>
  obtain⟨k,hk,rfl,HA,g,rfl⟩:=hrel
  by_cases hlt:k<s.size
  ·have hdr:=Cn.at_drop s k hlt
   have hA:=HA.out
   rw [hdr,List.all_cons]at hA
   have HL:=fun u=>HLn.out (s[k]'hlt) u
   have kk:(k:Int)<(s.size:Int):=by omega
   have h256:=(s[k]'hlt).toNat_lt
   generalize hc:s[k]'hlt=c at *
   by_cases hin:Cn.inName c=true
   ·rw [hin,Bool.true_and]at hA
    have HA2:=hid hA
    cases hlc:Cn.letter c
    ·rw [hlc]at HL
     replace HL:=hid HL
     have h3:(48≤c.toNat∧c.toNat≤57)∨c.toNat=46:=by simpa [Cn.inName,hlc]using hin
     rcases h3 with⟨h3,h4⟩|h3
     ·have i1:(48:Int)≤(c.toNat:Int):=by omega
      have i2:(c.toNat:Int)≤57:=by omega
      clear hA hin hdr HA h3 h4 hlc h256
      go_wp2_with (go_at_call 33;(with_reducible refine(HL.out _).mono ?_);rintro e w2 ⟨rfl,hw2⟩;have hw3:=hw2.symm;subst hw3)
      go_roundw
      case rel=>exact⟨k+1,by omega,by go_num,HA2,more_of_below bT⟩
      case measure=>simp [intOf];omega
     ·have i1:(c.toNat:Int)=46:=by omega
      have HLx:=HL.out
      simp only [i1]at HLx
      replace HL:=hid HLx
      clear HLx
      clear hA hin hdr HA h3 hlc h256
      go_wp2_with (go_at_call 33;(with_reducible refine(HL.out _).mono ?_);rintro e w2 ⟨rfl,hw2⟩;have hw3:=hw2.symm;subst hw3)
      go_roundw
      case rel=>exact⟨k+1,by omega,by go_num,HA2,more_of_below bT⟩
      case measure=>simp [intOf];omega
    ·rw [hlc]at HL
     replace HL:=hid HL
     clear hA hin hdr HA hlc h256
     go_wp2_with (go_at_call 33;(with_reducible refine(HL.out _).mono ?_);rintro e w2 ⟨rfl,hw2⟩;have hw3:=hw2.symm;subst hw3)
     go_roundw
     case rel=>exact⟨k+1,by omega,by go_num,HA2,more_of_below bT⟩
     case measure=>simp [intOf];omega
   ·have hin0:Cn.inName c=false:=by simpa using hin
    rw [hin0,Bool.false_and]at hA
    have HA2:=hid hA
    have hlc:Cn.letter c=false:=by
     cases h:Cn.letter c
     ·rfl
     ·simp [Cn.inName,h]at hin0
    rw [hlc]at HL
    replace HL:=hid HL
    have h3:(c.toNat<48∨57<c.toNat)∧c.toNat ≠ 46:=by simp [Cn.inName,hlc]at hin0;omega
    obtain⟨h4,h5⟩:=h3
    have i3:((c.toNat:Int) == 46)=false:=Cn.ne_b (by decide) h5
    rcases h4 with h4|h4
    ·have i1:(c.toNat:Int)<48:=by omega
     clear hA hin hin0 hdr HA hlc h256 h4 h5
     go_wp2_with (go_at_call 33;(with_reducible refine(HL.out _).mono ?_);rintro e w2 ⟨rfl,hw2⟩;have hw3:=hw2.symm;subst hw3)
     go_ret
     exact⟨by rw [HA2.out];rfl,more_of_below bT⟩
    ·have i1:(57:Int)<(c.toNat:Int):=by omega
     have i2:(48:Int)≤(c.toNat:Int):=by omega
     clear hA hin hin0 hdr HA hlc h256 h4 h5
     go_wp2_with (go_at_call 33;(with_reducible refine(HL.out _).mono ?_);rintro e w2 ⟨rfl,hw2⟩;have hw3:=hw2.symm;subst hw3)
     go_ret
     exact⟨by rw [HA2.out];rfl,more_of_below bT⟩
  ·have hks:k=s.size:=by omega
   subst hks
   have HA2:=hid (show s.data.toList.all Cn.inName=true by rw [HA.out,List.drop_eq_nil_of_le (by simp)];rfl)
   clear HA
   go_wp2
   go_ret
   exact⟨by rw [HA2.out];rfl,more_of_below bT⟩
theorem rname_any(s:ByteArray)(w:World):Calls Tryz.prog 20 #[.string s] w fun e w'=>e=.returned (.bool (Cn.nameC s.data.toList))∧∃ g,w'=more w g:=by
 have hsl:s.data.toList.length=s.size:=by simp
 by_cases h0:s.size=0
 ·have:s.data.toList=[]:=List.eq_nil_of_length_eq_zero (by omega)
  rw [this]
  exact rname_empty s w h0
 ·have hp:0<s.size:=by omega
  have hz:=Cn.at_zero s hp
  have hN:Cn.nameC s.data.toList=(decide (s.data.toList.length≤24) && Cn.letter (s[0]'hp) && s.data.toList.all Cn.inName):=by
   conv=>lhs;rw [hz]
   simp only [Cn.nameC,← hz]
  by_cases h1:24<s.size
  ·rw [hN,decide_eq_false (by omega),Bool.false_and,Bool.false_and]
   exact rname_long s w h1
  ·rw [hN,decide_eq_true (by omega),Bool.true_and]
   cases hl:Cn.letter (s[0]'hp)
   ·rw [Bool.false_and]
    exact rname_head s w (by omega) hp hl
   ·rw [Bool.true_and]
    exact rname_body s w (by omega) hp hl
end Go.Proofs.YthkegfdijohpaaaGreatDoor
