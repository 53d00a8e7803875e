/- Bytes and their digits,as the machine reckons them;plain tables. No program in sight. Conditions: none. -/
import Derived.Test.YthkegfdijohpaaaGreatDoorCnP
import Derived.Lib.Bytealg
import Derived.Laws.BitsAllLaws
namespace Go.Proofs.YthkegfdijohpaaaGreatDoor
set_option linter.all false
namespace Cn
abbrev dg:ByteArray:=⟨#[48,49,50,51,52,53,54,55,56,57,97,98,99,100,101,102]⟩
theorem dg_at(d:Nat)(h:d<16)(h2:d<dg.size):dg[d]'h2=As.lx d:=by
 have:∀ d:Fin 16,dg[d.1]'(by exact d.2)=As.lx d.1:=by decide
 exact this ⟨d,h⟩
def ixD(c:UInt8):Int:=match As.ux c with|some d=>(d:Int)|none => -1
theorem ix_all:∀ c:Fin 256,Lib.indexByte dg.data.toList (UInt8.ofNat c.1)=ixD (UInt8.ofNat c.1):=by decide +kernel
theorem ix_at(c:UInt8):Lib.indexByte dg.data.toList c=ixD c:=by
 have:=ix_all ⟨c.toNat,c.toNat_lt⟩
 simpa using this
theorem or_all:∀ x:Fin 16,∀ y:Fin 16,(x.1 * 16) ||| y.1=x.1 * 16+y.1:=by decide +kernel
theorem or_hex{x y:Nat}(hx:x<16)(hy:y<16):bits .or .u8 ((x:Int) * 16) (y:Int)=((x * 16+y:Nat):Int):=by
 have:=u8_or_nat (x * 16) y (by omega) (by omega)
 have h2:=or_all ⟨x,hx⟩ ⟨y,hy⟩
 simp only at h2
 rw [h2]at this
 simpa using this
theorem and_all:∀ c:Fin 256,c.1 &&& 15=c.1 % 16:=by decide +kernel
theorem and_hex(c:UInt8):bits .and .u8 (c.toNat:Int) 15=((c.toNat % 16:Nat):Int):=by
 have:=u8_and_nat c.toNat 15 c.toNat_lt (by decide)
 rw [and_all ⟨c.toNat,c.toNat_lt⟩]at this
 simpa using this
theorem ixD_some{c:UInt8}{d:Nat}(h:As.ux c=some d):ixD c=(d:Int)∧d<16:=by unfold ixD;rw [h];exact⟨rfl,(As.ux_lt h).1⟩
theorem ixD_none{c:UInt8}(h:As.ux c=none):ixD c = -1:=by unfold ixD;rw [h]
def PSt(s:List UInt8)(i:Nat)(b:List UInt8):Prop:=pairs s=(pairs (s.drop i)).map (b++·)
theorem pst_start(s:List UInt8):PSt s 0 []:=by unfold PSt;simp
theorem pst_next{s:List UInt8}{i:Nat}{b:List UInt8}(h:PSt s i b){x y:UInt8}{p q:Nat}(hx:s[i]?=some x)(hy:s[i+1]?=some y)(hp:As.ux x=some p)(hq:As.ux y=some q):PSt s (i+2) (b++[UInt8.ofNat (p * 16+q)]):=by
 obtain⟨h1,h2⟩:=List.getElem?_eq_some_iff.1 hx
 obtain⟨h3,h4⟩:=List.getElem?_eq_some_iff.1 hy
 unfold PSt at h ⊢
 rw [h,List.drop_eq_getElem_cons h1,List.drop_eq_getElem_cons h3,h2,h4]
 simp only [pairs,hp,hq]
 cases pairs (s.drop (i+1+1))with
 | none=>rfl
 | some r=>simp
theorem pst_bad{s:List UInt8}{i:Nat}{b:List UInt8}(h:PSt s i b){x y:UInt8}(hx:s[i]?=some x)(hy:s[i+1]?=some y)(hn:As.ux x=none∨As.ux y=none):pairs s=none:=by
 obtain⟨h1,h2⟩:=List.getElem?_eq_some_iff.1 hx
 obtain⟨h3,h4⟩:=List.getElem?_eq_some_iff.1 hy
 unfold PSt at h
 rw [h,List.drop_eq_getElem_cons h1,List.drop_eq_getElem_cons h3,h2,h4]
 rcases hn with hn|hn
 ·simp [pairs,hn]
 ·cases hp:As.ux x <;> simp [pairs,hn,hp]
theorem pst_end{s:List UInt8}{i:Nat}{b:List UInt8}(h:PSt s i b)(hi:s.length≤i):pairs s=some b:=by
 unfold PSt at h
 rw [h,List.drop_eq_nil_of_le hi]
 simp [pairs]
def bytesO(s:List UInt8):List UInt8 × Bool:=match bytesC s with|some b=>(b,true)|none=>([],false)
theorem bytesO_dash:bytesO [45]=([],true):=rfl
theorem bytesO_nil:bytesO []=([],false):=rfl
theorem bytesO_odd{s:List UInt8}(h:s ≠ [45])(ho:s.length % 2 ≠ 0):bytesO s=([],false):=by
 have hp:=pairs_even s.length s (Nat.le_refl _) ho
 unfold bytesO bytesC
 rw [if_neg h]
 split
 ·rename_i h;split at h
  ·cases h
  ·rw [hp]at h;cases h
 ·rfl
theorem bytesO_some{s b:List UInt8}(h:s ≠ [45])(hn:s ≠ [])(hp:pairs s=some b):bytesO s=(b,true):=by
 unfold bytesO bytesC;rw [if_neg h,if_neg hn,hp]
theorem bytesO_none{s:List UInt8}(h:s ≠ [45])(hn:s ≠ [])(hp:pairs s=none):bytesO s=([],false):=by
 unfold bytesO bytesC;rw [if_neg h,if_neg hn,hp]
end Cn
end Go.Proofs.YthkegfdijohpaaaGreatDoor
