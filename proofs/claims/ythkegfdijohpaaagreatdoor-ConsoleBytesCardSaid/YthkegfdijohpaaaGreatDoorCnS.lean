/- Line of both,as plain functions say. Conditions: texts' sizes and numbers are bounded;the library's variables are as they were laid. -/
import Derived.Test.YthkegfdijohpaaaGreatDoorCnO
import Derived.Laws.StructEq
namespace Go.Proofs.YthkegfdijohpaaaGreatDoor
set_option linter.all false
open Go.Lib (hid)
open Go.RowKit
namespace Cn
theorem neq_cmd{a b:Cm}(hab:a ≠ b)(w:World):(binOp BinOp.neq 26 (cm a) (cm b)).run Tryz.prog w=.ok (.bool true) w:=by
 obtain⟨a0,a1,a2,a3,a4,a5⟩:=a
 obtain⟨b0,b1,b2,b3,b4,b5⟩:=b
 unfold cm
 go_simp
 intro h0 h1 h2 h3 h4 h5
 exact hab (by simp [h0,h1,h2,h3,h4,h5])
structure CmOk(c:Cm):Prop where
 hn:c.name.length≤40000
 ht:c.text.length≤40000
 hf : -9223372036854775808≤c.fuel∧c.fuel≤9223372036854775807
 hw : -9223372036854775808≤c.words∧c.words≤9223372036854775807
 hs : -9223372036854775808≤c.stack∧c.stack≤9223372036854775807
theorem hex_le(t:List UInt8)(h:t.length≤40000):(hexC t).length≤80001:=by
 have h1:=hex_len t
 split at h1 <;> omega
theorem build_len(c:Cm)(h:CmOk c):(buildC c).length≤200000:=by
 have h5:=hex_le c.text h.ht
 have h2:=itoa_len64 c.fuel h.hf.1 h.hf.2
 have h3:=itoa_len64 c.words h.hw.1 h.hw.2
 have h4:=itoa_len64 c.stack h.hs.1 h.hs.2
 have h6:=h.hn
 unfold buildC wordsC
 (repeat' split) <;> simp [joinW,kWrite,kDelete,kCompile,kLoad,kRun] <;> omega
theorem parse_pos{s:List UInt8}{c:Cm}(h:parseC s=some c):0≤c.fuel∧0≤c.words∧0≤c.stack:=by
 unfold parseC cmdW at h
 split at h
 ·split at h
  ·simp at h;subst h;simp
  ·split at h
   ·simp at h;subst h;simp
   ·cases h
 ·split at h
  ·split at h
   ·split at h
    ·simp at h;subst h;simp
    ·cases h
   ·cases h
  ·split at h
   ·split at h
    ·rename_i z b hz hb
     simp at h;subst h;simp [(num_ok hz).2.1]
    ·cases h
   ·cases h
 ·split at h
  ·split at h
   ·rename_i x y hx hy
    simp at h;subst h;simp [(num_ok hx).2.1,(num_ok hy).2.1]
   ·cases h
  ·cases h
 ·cases h
theorem lineO_neg{c:Cm}(h:¬(0≤c.fuel∧0≤c.words∧0≤c.stack)):lineO c=([],1):=by
 unfold lineO lineC
 rw [if_neg fun hp=>h (parse_pos hp)]
theorem parseO_nil:parseO []=(zero,60):=rfl
abbrev LineIs(f:FuncId)(c:Cm)(w:World)(s:ByteArray)(e:Int):Prop:=Calls Tryz.prog f #[cm c] w fun x w'=>x=.returned (.tuple #[.string s,.int .i64 e])∧∃ g,w'=more w g
abbrev ParseIs(S:ByteArray)(c:Cm)(e:Int):Prop:=∀ w,Gc w→Calls Tryz.prog 8 #[.string S] w fun x w'=>x=.returned (.tuple #[cm c,.int .i64 e])∧∃ g,w'=more w g
abbrev RParseIs(S:ByteArray)(c:Cm)(e:Int):Prop:=∀ w,Calls Tryz.prog 9 #[.string S] w fun x w'=>x=.returned (.tuple #[cm c,.int .i64 e])∧∃ g,w'=more w g
abbrev SameIs(a b:Cm)(q:Bool):Prop:=∀ w,Calls Tryz.prog 10 #[cm a,cm b] w fun x w'=>x=.returned (.bool q)∧∃ g,w'=more w g
theorem same_self_cm(c:Cm):SameIs c c true:=fun w=>by have:=same_any c c w;rw [decide_eq_true rfl]at this;exact this
theorem same_not_cm{a b:Cm}(h:a ≠ b):SameIs a b false:=fun w=>by have:=same_any a b w;rw [decide_eq_false h]at this;exact this
theorem bytes_of{S:ByteArray}{l:List UInt8}(h:S.data.toList=l):(⟨l.toArray⟩:ByteArray)=S:=by
 subst h;apply ByteArray.ext;simp
theorem size_of{S:ByteArray}{l:List UInt8}(h:S.data.toList=l):S.size=l.length:=by rw [← h,Array.length_toList];rfl
theorem sz_mk(l:List UInt8):(⟨l.toArray⟩:ByteArray).size=l.length:=rfl
theorem line_three(c:Cm)(w:World)(S:ByteArray)(hS:S.data.toList=buildC c)(hl:(buildC c).length≤200000)
  (yes:Hid (ParseIs S c 0)→LineIs 11 c w S 0) (err:Hid (ParseIs S zero 60)→LineIs 11 c w ⟨#[]⟩ 1)
  (ne:∀ k,k ≠ c→Hid (ParseIs S k 0)→LineIs 11 c w ⟨#[]⟩ 1):LineIs 11 c w ⟨(lineO c).1.toArray⟩ (lineO c).2:=by
 have HP:ParseIs S (parseO (buildC c)).1 (parseO (buildC c)).2:=fun u hu=>by
  have:=cParse_any S u hu (by rw [size_of hS];omega)
  rw [hS]at this
  exact this
 rcases parseO_two (buildC c)with⟨k,hk⟩|he
 ·rw [hk]at HP
  by_cases hkc:k=c
  ·subst hkc;rw [lineO_yes hk,bytes_of hS];exact yes (hid HP)
  ·rw [lineO_ne hk hkc];exact ne k hkc (hid HP)
 ·rw [he]at HP;rw [lineO_err he];exact err (hid HP)
theorem rline_three(c:Cm)(w:World)(S:ByteArray)(hS:S.data.toList=buildC c)(hl:(buildC c).length≤200000)
  (yes:Hid (RParseIs S c 0)→Hid (SameIs c c true)→LineIs 12 c w S 0) (err:Hid (RParseIs S zero 60)→LineIs 12 c w ⟨#[]⟩ 1)
  (ne:∀ k,k ≠ c→Hid (RParseIs S k 0)→Hid (SameIs k c false)→LineIs 12 c w ⟨#[]⟩ 1):LineIs 12 c w ⟨(lineO c).1.toArray⟩ (lineO c).2:=by
 have HP:RParseIs S (parseO (buildC c)).1 (parseO (buildC c)).2:=fun u=>by
  have:=rParse_any S u (by rw [size_of hS];omega)
  rw [hS]at this
  exact this
 rcases parseO_two (buildC c)with⟨k,hk⟩|he
 ·rw [hk]at HP
  by_cases hkc:k=c
  ·subst hkc;rw [lineO_yes hk,bytes_of hS];exact yes (hid HP) (hid (same_self_cm _))
  ·rw [lineO_ne hk hkc];exact ne k hkc (hid HP) (hid (same_not_cm hkc))
 ·rw [he]at HP;rw [lineO_err he];exact err (hid HP)
end Cn
open Cn
theorem cLine_any(c:Cm)(h:CmOk c)(w:World)(hg:Gc w):LineIs 11 c w ⟨(lineO c).1.toArray⟩ (lineO c).2:=by
 have hlen:=build_len _ h
 obtain⟨op,N,T,z1,z2,z3⟩:=c
 obtain⟨hn,ht,hf,hw,hs⟩:=h
 simp only at hn ht hf hw hs
 have hx:=hex_le T ht
 have l1:=itoa_len64 z1 hf.1 hf.2
 have l2:=itoa_len64 z2 hw.1 hw.2
 have l3:=itoa_len64 z3 hs.1 hs.2
 have sN:((⟨(N).toArray⟩:ByteArray).size:Int)≤40000:=by rw [Cn.sz_mk];omega
 have sH:((⟨(Cn.hexC T).toArray⟩:ByteArray).size:Int)≤80001:=by rw [Cn.sz_mk];omega
 have sI1:((⟨(Lib.itoa z1).toArray⟩:ByteArray).size:Int)≤20:=by rw [Cn.sz_mk];omega
 have sI2:((⟨(Lib.itoa z2).toArray⟩:ByteArray).size:Int)≤20:=by rw [Cn.sz_mk];omega
 have sI3:((⟨(Lib.itoa z3).toArray⟩:ByteArray).size:Int)≤20:=by rw [Cn.sz_mk];omega
 have HH:=hid fun u=>hexed_any (⟨(T).toArray⟩:ByteArray) u (by rw [Cn.sz_mk];omega)
 have HI1:=hid fun u hu=>citoa_any z1 hf.1 hf.2 u hu
 have HI2:=hid fun u hu=>citoa_any z2 hw.1 hw.2 u hu
 have HI3:=hid fun u hu=>citoa_any z3 hs.1 hs.2 u hu
 by_cases o1:op=1
 ·subst o1
  exact line_three _ w ((⟨#[119,114,105,116,101,32]⟩:ByteArray)++(⟨(N).toArray⟩:ByteArray)++(⟨#[32]⟩:ByteArray)++(⟨(Cn.hexC T).toArray⟩:ByteArray)) (by simp [buildC,wordsC,joinW,kWrite,ByteArray.data_append]) hlen
   (fun P=>ln_write_yes (⟨(N).toArray⟩:ByteArray) (⟨(T).toArray⟩:ByteArray) (⟨(Cn.hexC T).toArray⟩:ByteArray) z1 z2 z3 w hg sN sH HH P) (fun P=>ln_write_err (⟨(N).toArray⟩:ByteArray) (⟨(T).toArray⟩:ByteArray) (⟨(Cn.hexC T).toArray⟩:ByteArray) z1 z2 z3 w hg sN sH HH P)
   (fun k hk P=>ln_write_ne (⟨(N).toArray⟩:ByteArray) (⟨(T).toArray⟩:ByteArray) (⟨(Cn.hexC T).toArray⟩:ByteArray) z1 z2 z3 (⟨k.name.toArray⟩:ByteArray) (⟨k.text.toArray⟩:ByteArray) k.op k.fuel k.words k.stack w hg sN sH HH P (fun u=>neq_cmd hk u))
 by_cases o2:op=2
 ·subst o2
  exact line_three _ w ((⟨#[100,101,108,101,116,101,32]⟩:ByteArray)++(⟨(N).toArray⟩:ByteArray)) (by simp [buildC,wordsC,joinW,kDelete,ByteArray.data_append]) hlen
   (fun P=>ln_delete_yes (⟨(N).toArray⟩:ByteArray) (⟨(T).toArray⟩:ByteArray) z1 z2 z3 w hg sN P) (fun P=>ln_delete_err (⟨(N).toArray⟩:ByteArray) (⟨(T).toArray⟩:ByteArray) z1 z2 z3 w hg sN P)
   (fun k hk P=>ln_delete_ne (⟨(N).toArray⟩:ByteArray) (⟨(T).toArray⟩:ByteArray) z1 z2 z3 (⟨k.name.toArray⟩:ByteArray) (⟨k.text.toArray⟩:ByteArray) k.op k.fuel k.words k.stack w hg sN P (fun u=>neq_cmd hk u))
 by_cases o3:op=3
 ·subst o3
  exact line_three _ w ((⟨#[99,111,109,112,105,108,101,32]⟩:ByteArray)++(⟨(N).toArray⟩:ByteArray)) (by simp [buildC,wordsC,joinW,kCompile,ByteArray.data_append]) hlen
   (fun P=>ln_compile_yes (⟨(N).toArray⟩:ByteArray) (⟨(T).toArray⟩:ByteArray) z1 z2 z3 w hg sN P) (fun P=>ln_compile_err (⟨(N).toArray⟩:ByteArray) (⟨(T).toArray⟩:ByteArray) z1 z2 z3 w hg sN P)
   (fun k hk P=>ln_compile_ne (⟨(N).toArray⟩:ByteArray) (⟨(T).toArray⟩:ByteArray) z1 z2 z3 (⟨k.name.toArray⟩:ByteArray) (⟨k.text.toArray⟩:ByteArray) k.op k.fuel k.words k.stack w hg sN P (fun u=>neq_cmd hk u))
 by_cases o4:op=4
 ·subst o4
  exact line_three _ w ((⟨#[108,111,97,100,32]⟩:ByteArray)++(⟨(N).toArray⟩:ByteArray)++(⟨#[32]⟩:ByteArray)++(⟨(Lib.itoa z2).toArray⟩:ByteArray)++(⟨#[32]⟩:ByteArray)++(⟨(Lib.itoa z3).toArray⟩:ByteArray)) (by simp [buildC,wordsC,joinW,kLoad,ByteArray.data_append]) hlen
   (fun P=>ln_load_yes (⟨(N).toArray⟩:ByteArray) (⟨(T).toArray⟩:ByteArray) (⟨(Lib.itoa z2).toArray⟩:ByteArray) (⟨(Lib.itoa z3).toArray⟩:ByteArray) z1 z2 z3 w hg sN sI2 sI3 HI2 HI3 P) (fun P=>ln_load_err (⟨(N).toArray⟩:ByteArray) (⟨(T).toArray⟩:ByteArray) (⟨(Lib.itoa z2).toArray⟩:ByteArray) (⟨(Lib.itoa z3).toArray⟩:ByteArray) z1 z2 z3 w hg sN sI2 sI3 HI2 HI3 P)
   (fun k hk P=>ln_load_ne (⟨(N).toArray⟩:ByteArray) (⟨(T).toArray⟩:ByteArray) (⟨(Lib.itoa z2).toArray⟩:ByteArray) (⟨(Lib.itoa z3).toArray⟩:ByteArray) z1 z2 z3 (⟨k.name.toArray⟩:ByteArray) (⟨k.text.toArray⟩:ByteArray) k.op k.fuel k.words k.stack w hg sN sI2 sI3 HI2 HI3 P (fun u=>neq_cmd hk u))
 by_cases o5:op=5
 ·subst o5
  exact line_three _ w ((⟨#[114,117,110,32]⟩:ByteArray)++(⟨(Lib.itoa z1).toArray⟩:ByteArray)++(⟨#[32]⟩:ByteArray)++(⟨(Cn.hexC T).toArray⟩:ByteArray)) (by simp [buildC,wordsC,joinW,kRun,ByteArray.data_append]) hlen
   (fun P=>ln_run_yes (⟨(N).toArray⟩:ByteArray) (⟨(T).toArray⟩:ByteArray) (⟨(Cn.hexC T).toArray⟩:ByteArray) (⟨(Lib.itoa z1).toArray⟩:ByteArray) z1 z2 z3 w hg sN sH sI1 HH HI1 P) (fun P=>ln_run_err (⟨(N).toArray⟩:ByteArray) (⟨(T).toArray⟩:ByteArray) (⟨(Cn.hexC T).toArray⟩:ByteArray) (⟨(Lib.itoa z1).toArray⟩:ByteArray) z1 z2 z3 w hg sN sH sI1 HH HI1 P)
   (fun k hk P=>ln_run_ne (⟨(N).toArray⟩:ByteArray) (⟨(T).toArray⟩:ByteArray) (⟨(Cn.hexC T).toArray⟩:ByteArray) (⟨(Lib.itoa z1).toArray⟩:ByteArray) z1 z2 z3 (⟨k.name.toArray⟩:ByteArray) (⟨k.text.toArray⟩:ByteArray) k.op k.fuel k.words k.stack w hg sN sH sI1 HH HI1 P (fun u=>neq_cmd hk u))
 have o1':(op == 1)=false:=by simpa using o1
 have o2':(op == 2)=false:=by simpa using o2
 have o3':(op == 3)=false:=by simpa using o3
 have o4':(op == 4)=false:=by simpa using o4
 have o5':(op == 5)=false:=by simpa using o5
 have hb:buildC ⟨op,N,T,z1,z2,z3⟩=[]:=by simp [buildC,wordsC,joinW,o1,o2,o3,o4,o5]
 have he:parseO (buildC ⟨op,N,T,z1,z2,z3⟩)=(zero,60):=by rw [hb];rfl
 rw [lineO_err he]
 exact ln_other op (⟨(N).toArray⟩:ByteArray) (⟨(T).toArray⟩:ByteArray) z1 z2 z3 w hg o1' o2' o3' o4' o5' (hid fun u hu=>cParse_any ⟨#[]⟩ u hu (by decide))
theorem rLine_any(c:Cm)(h:CmOk c)(w:World):LineIs 12 c w ⟨(lineO c).1.toArray⟩ (lineO c).2:=by
 have hlen:=build_len _ h
 obtain⟨op,N,T,z1,z2,z3⟩:=c
 obtain⟨hn,ht,hf,hw,hs⟩:=h
 simp only at hn ht hf hw hs
 have hx:=hex_le T ht
 have l1:=itoa_len64 z1 hf.1 hf.2
 have l2:=itoa_len64 z2 hw.1 hw.2
 have l3:=itoa_len64 z3 hs.1 hs.2
 have sN:((⟨(N).toArray⟩:ByteArray).size:Int)≤40000:=by rw [Cn.sz_mk];omega
 have sH:((⟨(Cn.hexC T).toArray⟩:ByteArray).size:Int)≤80001:=by rw [Cn.sz_mk];omega
 have sI1:((⟨(Lib.itoa z1).toArray⟩:ByteArray).size:Int)≤20:=by rw [Cn.sz_mk];omega
 have sI2:((⟨(Lib.itoa z2).toArray⟩:ByteArray).size:Int)≤20:=by rw [Cn.sz_mk];omega
 have sI3:((⟨(Lib.itoa z3).toArray⟩:ByteArray).size:Int)≤20:=by rw [Cn.sz_mk];omega
 have HH:=hid fun u=>rhexa_any (⟨(T).toArray⟩:ByteArray) u (by rw [Cn.sz_mk];omega)
 by_cases o1:op=1
 ·subst o1
  exact rline_three _ w ((⟨#[119,114,105,116,101,32]⟩:ByteArray)++(⟨(N).toArray⟩:ByteArray)++(⟨#[32]⟩:ByteArray)++(⟨(Cn.hexC T).toArray⟩:ByteArray)) (by simp [buildC,wordsC,joinW,kWrite,ByteArray.data_append]) hlen
   (fun P Q=>rln_write_yes (⟨(N).toArray⟩:ByteArray) (⟨(T).toArray⟩:ByteArray) (⟨(Cn.hexC T).toArray⟩:ByteArray) z1 z2 z3 w sN sH HH P Q) (fun P=>rln_write_err (⟨(N).toArray⟩:ByteArray) (⟨(T).toArray⟩:ByteArray) (⟨(Cn.hexC T).toArray⟩:ByteArray) z1 z2 z3 w sN sH HH P)
   (fun k hk P Q=>rln_write_ne (⟨(N).toArray⟩:ByteArray) (⟨(T).toArray⟩:ByteArray) (⟨(Cn.hexC T).toArray⟩:ByteArray) z1 z2 z3 (⟨k.name.toArray⟩:ByteArray) (⟨k.text.toArray⟩:ByteArray) k.op k.fuel k.words k.stack w sN sH HH P Q)
 by_cases o2:op=2
 ·subst o2
  exact rline_three _ w ((⟨#[100,101,108,101,116,101,32]⟩:ByteArray)++(⟨(N).toArray⟩:ByteArray)) (by simp [buildC,wordsC,joinW,kDelete,ByteArray.data_append]) hlen
   (fun P Q=>rln_delete_yes (⟨(N).toArray⟩:ByteArray) (⟨(T).toArray⟩:ByteArray) z1 z2 z3 w sN P Q) (fun P=>rln_delete_err (⟨(N).toArray⟩:ByteArray) (⟨(T).toArray⟩:ByteArray) z1 z2 z3 w sN P)
   (fun k hk P Q=>rln_delete_ne (⟨(N).toArray⟩:ByteArray) (⟨(T).toArray⟩:ByteArray) z1 z2 z3 (⟨k.name.toArray⟩:ByteArray) (⟨k.text.toArray⟩:ByteArray) k.op k.fuel k.words k.stack w sN P Q)
 by_cases o3:op=3
 ·subst o3
  exact rline_three _ w ((⟨#[99,111,109,112,105,108,101,32]⟩:ByteArray)++(⟨(N).toArray⟩:ByteArray)) (by simp [buildC,wordsC,joinW,kCompile,ByteArray.data_append]) hlen
   (fun P Q=>rln_compile_yes (⟨(N).toArray⟩:ByteArray) (⟨(T).toArray⟩:ByteArray) z1 z2 z3 w sN P Q) (fun P=>rln_compile_err (⟨(N).toArray⟩:ByteArray) (⟨(T).toArray⟩:ByteArray) z1 z2 z3 w sN P)
   (fun k hk P Q=>rln_compile_ne (⟨(N).toArray⟩:ByteArray) (⟨(T).toArray⟩:ByteArray) z1 z2 z3 (⟨k.name.toArray⟩:ByteArray) (⟨k.text.toArray⟩:ByteArray) k.op k.fuel k.words k.stack w sN P Q)
 by_cases o4:op=4
 ·subst o4
  by_cases p2:0≤z2
  ·by_cases p3:0≤z3
   ·have HI2:=hid fun u=>rdec_itoa z2 (by omega) (by omega) u
    have HI3:=hid fun u=>rdec_itoa z3 (by omega) (by omega) u
    exact rline_three _ w ((⟨#[108,111,97,100,32]⟩:ByteArray)++(⟨(N).toArray⟩:ByteArray)++(⟨#[32]⟩:ByteArray)++(⟨(Lib.itoa z2).toArray⟩:ByteArray)++(⟨#[32]⟩:ByteArray)++(⟨(Lib.itoa z3).toArray⟩:ByteArray)) (by simp [buildC,wordsC,joinW,kLoad,ByteArray.data_append]) hlen
     (fun P Q=>rln_load_yes (⟨(N).toArray⟩:ByteArray) (⟨(T).toArray⟩:ByteArray) (⟨(Lib.itoa z2).toArray⟩:ByteArray) (⟨(Lib.itoa z3).toArray⟩:ByteArray) z1 z2 z3 w sN sI2 sI3 HI2 HI3 p2 p3 P Q) (fun P=>rln_load_err (⟨(N).toArray⟩:ByteArray) (⟨(T).toArray⟩:ByteArray) (⟨(Lib.itoa z2).toArray⟩:ByteArray) (⟨(Lib.itoa z3).toArray⟩:ByteArray) z1 z2 z3 w sN sI2 sI3 HI2 HI3 p2 p3 P)
     (fun k hk P Q=>rln_load_ne (⟨(N).toArray⟩:ByteArray) (⟨(T).toArray⟩:ByteArray) (⟨(Lib.itoa z2).toArray⟩:ByteArray) (⟨(Lib.itoa z3).toArray⟩:ByteArray) z1 z2 z3 (⟨k.name.toArray⟩:ByteArray) (⟨k.text.toArray⟩:ByteArray) k.op k.fuel k.words k.stack w sN sI2 sI3 HI2 HI3 p2 p3 P Q)
   ·rw [lineO_neg (fun hh=>p3 hh.2.2)]
    exact rln_load_neg3 (⟨(N).toArray⟩:ByteArray) (⟨(T).toArray⟩:ByteArray) z1 z2 z3 w p2 (by omega)
  ·rw [lineO_neg (fun hh=>p2 hh.2.1)]
   exact rln_load_neg2 (⟨(N).toArray⟩:ByteArray) (⟨(T).toArray⟩:ByteArray) z1 z2 z3 w (by omega)
 by_cases o5:op=5
 ·subst o5
  by_cases p1:0≤z1
  ·have HI1:=hid fun u=>rdec_itoa z1 (by omega) (by omega) u
   exact rline_three _ w ((⟨#[114,117,110,32]⟩:ByteArray)++(⟨(Lib.itoa z1).toArray⟩:ByteArray)++(⟨#[32]⟩:ByteArray)++(⟨(Cn.hexC T).toArray⟩:ByteArray)) (by simp [buildC,wordsC,joinW,kRun,ByteArray.data_append]) hlen
    (fun P Q=>rln_run_yes (⟨(N).toArray⟩:ByteArray) (⟨(T).toArray⟩:ByteArray) (⟨(Cn.hexC T).toArray⟩:ByteArray) (⟨(Lib.itoa z1).toArray⟩:ByteArray) z1 z2 z3 w sN sH sI1 HH HI1 p1 P Q) (fun P=>rln_run_err (⟨(N).toArray⟩:ByteArray) (⟨(T).toArray⟩:ByteArray) (⟨(Cn.hexC T).toArray⟩:ByteArray) (⟨(Lib.itoa z1).toArray⟩:ByteArray) z1 z2 z3 w sN sH sI1 HH HI1 p1 P)
    (fun k hk P Q=>rln_run_ne (⟨(N).toArray⟩:ByteArray) (⟨(T).toArray⟩:ByteArray) (⟨(Cn.hexC T).toArray⟩:ByteArray) (⟨(Lib.itoa z1).toArray⟩:ByteArray) z1 z2 z3 (⟨k.name.toArray⟩:ByteArray) (⟨k.text.toArray⟩:ByteArray) k.op k.fuel k.words k.stack w sN sH sI1 HH HI1 p1 P Q)
  ·rw [lineO_neg (fun hh=>p1 hh.1)]
   exact rln_run_neg (⟨(N).toArray⟩:ByteArray) (⟨(T).toArray⟩:ByteArray) z1 z2 z3 w (by omega)
 have o1':(op == 1)=false:=by simpa using o1
 have o2':(op == 2)=false:=by simpa using o2
 have o3':(op == 3)=false:=by simpa using o3
 have o4':(op == 4)=false:=by simpa using o4
 have o5':(op == 5)=false:=by simpa using o5
 have hb:buildC ⟨op,N,T,z1,z2,z3⟩=[]:=by simp [buildC,wordsC,joinW,o1,o2,o3,o4,o5]
 have he:parseO (buildC ⟨op,N,T,z1,z2,z3⟩)=(zero,60):=by rw [hb];rfl
 rw [lineO_err he]
 exact rln_other op (⟨(N).toArray⟩:ByteArray) (⟨(T).toArray⟩:ByteArray) z1 z2 z3 w o1' o2' o3' o4' o5' (hid fun u=>rParse_any ⟨#[]⟩ u (by decide))
end Go.Proofs.YthkegfdijohpaaaGreatDoor
