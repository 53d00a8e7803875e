/- The walks of console.Line and of the document's Line and SameCmd: the line of a command. Conditions: the library's variables are as they were laid;texts' sizes are bounded. -/
import Derived.Test.YthkegfdijohpaaaGreatDoorCnM
import Derived.Laws.StructEq
namespace Go.Proofs.YthkegfdijohpaaaGreatDoor
set_option linter.all false
open Go.Lib (hid)
set_option maxRecDepth 1000000
set_option maxHeartbeats 16000000
open Go.RowKit
namespace Cn
def lineO(c:Cm):List UInt8 × Int:=match lineC c with|some s=>(s,0)|none=>([],1)
theorem lineO_yes{c:Cm}(h:parseO (buildC c)=(c,0)):lineO c=(buildC c,0):=by
 unfold lineO lineC
 rw [if_pos]
 unfold parseO at h
 split at h
 ·rename_i x hx;simp at h;rw [hx,h]
 ·simp at h
theorem lineO_err{c k:Cm}(h:parseO (buildC c)=(k,60)):lineO c=([],1):=by
 unfold lineO lineC
 rw [if_neg]
 intro hp
 unfold parseO at h
 rw [hp]at h
 simp at h
theorem lineO_ne{c k:Cm}(h:parseO (buildC c)=(k,0))(hk:k ≠ c):lineO c=([],1):=by
 unfold lineO lineC
 rw [if_neg]
 intro hp
 unfold parseO at h
 rw [hp]at h
 simp at h
 exact hk h.symm
theorem parseO_two(s:List UInt8):(∃ k,parseO s=(k,0))∨parseO s=(zero,60):=by
 unfold parseO;cases parseC s with
 | some c=>exact .inl ⟨c,rfl⟩
 | none=>exact .inr rfl
theorem itoa_len64(n:Int)(h0 : -9223372036854775808≤n)(h1:n≤9223372036854775807):(Lib.itoa n).length≤20:=by
 by_cases h:n<0
 ·rw [As.itoa_neg h]
  have:=Tk.decN_len (-n).toNat 18 (by omega)
  simp;omega
 ·rw [As.itoa_pos (by omega)]
  have:=Tk.decN_len n.toNat 18 (by omega)
  omega
theorem str_app(a b:List UInt8):(⟨a.toArray⟩:ByteArray)++⟨b.toArray⟩=⟨(a++b).toArray⟩:=by apply ByteArray.ext;simp [ByteArray.data_append]
theorem cm_eq_of(a b:Cm):a=b ↔ a.op=b.op∧a.name=b.name∧a.text=b.text∧a.fuel=b.fuel∧a.words=b.words∧a.stack=b.stack:=by
 obtain⟨a1,a2,a3,a4,a5,a6⟩:=a
 obtain⟨b1,b2,b3,b4,b5,b6⟩:=b
 simp
end Cn

theorem ln_write_yes(N T H:ByteArray)(z1 z2 z3:Int)(w:World)(hg:Gc w)(sN:(N.size:Int)≤40000)(sH:(H.size:Int)≤80001)(HH:Hid (∀ w,Calls Tryz.prog 21 #[.string T] w fun e w'=>e=.returned (.string H)∧∃ g,w'=more w g))(HP:Hid (∀ w,Gc w→Calls Tryz.prog 8 #[.string ((⟨#[119,114,105,116,101,32]⟩:ByteArray)++N++(⟨#[32]⟩:ByteArray)++H)] w fun e w'=>e=.returned (.tuple #[.agg #[.int .i64 1,.string N,.string T,.int .i64 z1,.int .i64 z2,.int .i64 z3],.int .i64 0])∧∃ g,w'=more w g))  :
  Calls Tryz.prog 11 #[.agg #[.int .i64 1,.string N,.string T,.int .i64 z1,.int .i64 z2,.int .i64 z3]] w fun e w'=>e=.returned (.tuple #[.string ((⟨#[119,114,105,116,101,32]⟩:ByteArray)++N++(⟨#[32]⟩:ByteArray)++H),.int .i64 0])∧∃ g,w'=more w g:=by
 have HG:=hid hg
 clear hg
 go_enter Tryz.func11,Tryz.ntmps11
 go_wp2
 refine wp_region_more (by kernel_rfl) (by kernel_rfl) ?_
 repeat(first|go_big_quiet_skip|(go_big_quiet_want;go_big_quiet_op;first|go_big_quiet_on|(apply Exists.intro;refine⟨fun _=>?_,?_⟩;(focus(first|(go_at_call 21;exact mo_in (HH.out _))|(go_at_call 22;first|exact mo_in (HI1.out _ (HG.out.below bT))|exact mo_in (HI2.out _ (HG.out.below bT))|exact mo_in (HI3.out _ (HG.out.below bT)))));go_big_quiet_on)))
 refine wpQuiet_nil ?_
 intro _ hw'
 obtain⟨gq,rfl⟩:=hw'
 go_wp2_with (first|(go_at_call 21;(with_reducible refine(HH.out _).mono ?_);rintro e w2 ⟨rfl,g2,rfl⟩)|(go_at_call 22;first|((with_reducible refine(HI1.out _ (HG.out.below bT)).mono ?_);rintro e w3 ⟨rfl,g3,rfl⟩)|((with_reducible refine(HI2.out _ (HG.out.below bT)).mono ?_);rintro e w3 ⟨rfl,g3,rfl⟩)|((with_reducible refine(HI3.out _ (HG.out.below bT)).mono ?_);rintro e w4 ⟨rfl,g4,rfl⟩))|(go_at_call 8;(with_reducible refine(HP.out _ (HG.out.below bT)).mono ?_);rintro e w5 ⟨rfl,g5,rfl⟩))
 go_ret2
 exact⟨rfl,more_of_below bT⟩
theorem ln_write_err(N T H:ByteArray)(z1 z2 z3:Int)(w:World)(hg:Gc w)(sN:(N.size:Int)≤40000)(sH:(H.size:Int)≤80001)(HH:Hid (∀ w,Calls Tryz.prog 21 #[.string T] w fun e w'=>e=.returned (.string H)∧∃ g,w'=more w g))(HP:Hid (∀ w,Gc w→Calls Tryz.prog 8 #[.string ((⟨#[119,114,105,116,101,32]⟩:ByteArray)++N++(⟨#[32]⟩:ByteArray)++H)] w fun e w'=>e=.returned (.tuple #[.agg #[.int .i64 0,.string ⟨#[]⟩,.string ⟨#[]⟩,.int .i64 0,.int .i64 0,.int .i64 0],.int .i64 60])∧∃ g,w'=more w g))  :
  Calls Tryz.prog 11 #[.agg #[.int .i64 1,.string N,.string T,.int .i64 z1,.int .i64 z2,.int .i64 z3]] w fun e w'=>e=.returned (.tuple #[.string ⟨#[]⟩,.int .i64 1])∧∃ g,w'=more w g:=by
 have HG:=hid hg
 clear hg
 go_enter Tryz.func11,Tryz.ntmps11
 go_wp2
 refine wp_region_more (by kernel_rfl) (by kernel_rfl) ?_
 repeat(first|go_big_quiet_skip|(go_big_quiet_want;go_big_quiet_op;first|go_big_quiet_on|(apply Exists.intro;refine⟨fun _=>?_,?_⟩;(focus(first|(go_at_call 21;exact mo_in (HH.out _))|(go_at_call 22;first|exact mo_in (HI1.out _ (HG.out.below bT))|exact mo_in (HI2.out _ (HG.out.below bT))|exact mo_in (HI3.out _ (HG.out.below bT)))));go_big_quiet_on)))
 refine wpQuiet_nil ?_
 intro _ hw'
 obtain⟨gq,rfl⟩:=hw'
 go_wp2_with (first|(go_at_call 21;(with_reducible refine(HH.out _).mono ?_);rintro e w2 ⟨rfl,g2,rfl⟩)|(go_at_call 22;first|((with_reducible refine(HI1.out _ (HG.out.below bT)).mono ?_);rintro e w3 ⟨rfl,g3,rfl⟩)|((with_reducible refine(HI2.out _ (HG.out.below bT)).mono ?_);rintro e w3 ⟨rfl,g3,rfl⟩)|((with_reducible refine(HI3.out _ (HG.out.below bT)).mono ?_);rintro e w4 ⟨rfl,g4,rfl⟩))|(go_at_call 8;(with_reducible refine(HP.out _ (HG.out.below bT)).mono ?_);rintro e w5 ⟨rfl,g5,rfl⟩))
 go_ret2
 exact⟨rfl,more_of_below bT⟩
theorem ln_write_ne(N T H:ByteArray)(z1 z2 z3:Int)(K1 K2:ByteArray)(k0 k3 k4 k5:Int)(w:World)(hg:Gc w)(sN:(N.size:Int)≤40000)(sH:(H.size:Int)≤80001)(HH:Hid (∀ w,Calls Tryz.prog 21 #[.string T] w fun e w'=>e=.returned (.string H)∧∃ g,w'=more w g))(HP:Hid (∀ w,Gc w→Calls Tryz.prog 8 #[.string ((⟨#[119,114,105,116,101,32]⟩:ByteArray)++N++(⟨#[32]⟩:ByteArray)++H)] w fun e w'=>e=.returned (.tuple #[.agg #[.int .i64 k0,.string K1,.string K2,.int .i64 k3,.int .i64 k4,.int .i64 k5],.int .i64 0])∧∃ g,w'=more w g))(HQ:∀ w,(binOp BinOp.neq 26 (.agg #[.int .i64 k0,.string K1,.string K2,.int .i64 k3,.int .i64 k4,.int .i64 k5]) (.agg #[.int .i64 1,.string N,.string T,.int .i64 z1,.int .i64 z2,.int .i64 z3])).run Tryz.prog w=.ok (.bool true) w) :
  Calls Tryz.prog 11 #[.agg #[.int .i64 1,.string N,.string T,.int .i64 z1,.int .i64 z2,.int .i64 z3]] w fun e w'=>e=.returned (.tuple #[.string ⟨#[]⟩,.int .i64 1])∧∃ g,w'=more w g:=by
 have HG:=hid hg
 clear hg
 go_enter Tryz.func11,Tryz.ntmps11
 go_wp2
 refine wp_region_more (by kernel_rfl) (by kernel_rfl) ?_
 repeat(first|go_big_quiet_skip|(go_big_quiet_want;go_big_quiet_op;first|go_big_quiet_on|(apply Exists.intro;refine⟨fun _=>?_,?_⟩;(focus(first|(go_at_call 21;exact mo_in (HH.out _))|(go_at_call 22;first|exact mo_in (HI1.out _ (HG.out.below bT))|exact mo_in (HI2.out _ (HG.out.below bT))|exact mo_in (HI3.out _ (HG.out.below bT)))));go_big_quiet_on)))
 refine wpQuiet_nil ?_
 intro _ hw'
 obtain⟨gq,rfl⟩:=hw'
 go_wp2_with (first|(go_at_call 21;(with_reducible refine(HH.out _).mono ?_);rintro e w2 ⟨rfl,g2,rfl⟩)|(go_at_call 22;first|((with_reducible refine(HI1.out _ (HG.out.below bT)).mono ?_);rintro e w3 ⟨rfl,g3,rfl⟩)|((with_reducible refine(HI2.out _ (HG.out.below bT)).mono ?_);rintro e w3 ⟨rfl,g3,rfl⟩)|((with_reducible refine(HI3.out _ (HG.out.below bT)).mono ?_);rintro e w4 ⟨rfl,g4,rfl⟩))|(go_at_call 8;(with_reducible refine(HP.out _ (HG.out.below bT)).mono ?_);rintro e w5 ⟨rfl,g5,rfl⟩))
 go_ret2
 exact⟨rfl,more_of_below bT⟩
theorem ln_delete_yes(N T:ByteArray)(z1 z2 z3:Int)(w:World)(hg:Gc w)(sN:(N.size:Int)≤40000)(HP:Hid (∀ w,Gc w→Calls Tryz.prog 8 #[.string ((⟨#[100,101,108,101,116,101,32]⟩:ByteArray)++N)] w fun e w'=>e=.returned (.tuple #[.agg #[.int .i64 2,.string N,.string T,.int .i64 z1,.int .i64 z2,.int .i64 z3],.int .i64 0])∧∃ g,w'=more w g))  :
  Calls Tryz.prog 11 #[.agg #[.int .i64 2,.string N,.string T,.int .i64 z1,.int .i64 z2,.int .i64 z3]] w fun e w'=>e=.returned (.tuple #[.string ((⟨#[100,101,108,101,116,101,32]⟩:ByteArray)++N),.int .i64 0])∧∃ g,w'=more w g:=by
 have HG:=hid hg
 clear hg
 go_enter Tryz.func11,Tryz.ntmps11
 go_wp2_with (first|(go_at_call 21;(with_reducible refine(HH.out _).mono ?_);rintro e w2 ⟨rfl,g2,rfl⟩)|(go_at_call 22;first|((with_reducible refine(HI1.out _ (HG.out.below bT)).mono ?_);rintro e w3 ⟨rfl,g3,rfl⟩)|((with_reducible refine(HI2.out _ (HG.out.below bT)).mono ?_);rintro e w3 ⟨rfl,g3,rfl⟩)|((with_reducible refine(HI3.out _ (HG.out.below bT)).mono ?_);rintro e w4 ⟨rfl,g4,rfl⟩))|(go_at_call 8;(with_reducible refine(HP.out _ (HG.out.below bT)).mono ?_);rintro e w5 ⟨rfl,g5,rfl⟩))
 go_ret2
 exact⟨rfl,more_of_below bT⟩
theorem ln_delete_err(N T:ByteArray)(z1 z2 z3:Int)(w:World)(hg:Gc w)(sN:(N.size:Int)≤40000)(HP:Hid (∀ w,Gc w→Calls Tryz.prog 8 #[.string ((⟨#[100,101,108,101,116,101,32]⟩:ByteArray)++N)] w fun e w'=>e=.returned (.tuple #[.agg #[.int .i64 0,.string ⟨#[]⟩,.string ⟨#[]⟩,.int .i64 0,.int .i64 0,.int .i64 0],.int .i64 60])∧∃ g,w'=more w g))  :
  Calls Tryz.prog 11 #[.agg #[.int .i64 2,.string N,.string T,.int .i64 z1,.int .i64 z2,.int .i64 z3]] w fun e w'=>e=.returned (.tuple #[.string ⟨#[]⟩,.int .i64 1])∧∃ g,w'=more w g:=by
 have HG:=hid hg
 clear hg
 go_enter Tryz.func11,Tryz.ntmps11
 go_wp2_with (first|(go_at_call 21;(with_reducible refine(HH.out _).mono ?_);rintro e w2 ⟨rfl,g2,rfl⟩)|(go_at_call 22;first|((with_reducible refine(HI1.out _ (HG.out.below bT)).mono ?_);rintro e w3 ⟨rfl,g3,rfl⟩)|((with_reducible refine(HI2.out _ (HG.out.below bT)).mono ?_);rintro e w3 ⟨rfl,g3,rfl⟩)|((with_reducible refine(HI3.out _ (HG.out.below bT)).mono ?_);rintro e w4 ⟨rfl,g4,rfl⟩))|(go_at_call 8;(with_reducible refine(HP.out _ (HG.out.below bT)).mono ?_);rintro e w5 ⟨rfl,g5,rfl⟩))
 go_ret2
 exact⟨rfl,more_of_below bT⟩
theorem ln_delete_ne(N T:ByteArray)(z1 z2 z3:Int)(K1 K2:ByteArray)(k0 k3 k4 k5:Int)(w:World)(hg:Gc w)(sN:(N.size:Int)≤40000)(HP:Hid (∀ w,Gc w→Calls Tryz.prog 8 #[.string ((⟨#[100,101,108,101,116,101,32]⟩:ByteArray)++N)] w fun e w'=>e=.returned (.tuple #[.agg #[.int .i64 k0,.string K1,.string K2,.int .i64 k3,.int .i64 k4,.int .i64 k5],.int .i64 0])∧∃ g,w'=more w g))(HQ:∀ w,(binOp BinOp.neq 26 (.agg #[.int .i64 k0,.string K1,.string K2,.int .i64 k3,.int .i64 k4,.int .i64 k5]) (.agg #[.int .i64 2,.string N,.string T,.int .i64 z1,.int .i64 z2,.int .i64 z3])).run Tryz.prog w=.ok (.bool true) w) :
  Calls Tryz.prog 11 #[.agg #[.int .i64 2,.string N,.string T,.int .i64 z1,.int .i64 z2,.int .i64 z3]] w fun e w'=>e=.returned (.tuple #[.string ⟨#[]⟩,.int .i64 1])∧∃ g,w'=more w g:=by
 have HG:=hid hg
 clear hg
 go_enter Tryz.func11,Tryz.ntmps11
 go_wp2_with (first|(go_at_call 21;(with_reducible refine(HH.out _).mono ?_);rintro e w2 ⟨rfl,g2,rfl⟩)|(go_at_call 22;first|((with_reducible refine(HI1.out _ (HG.out.below bT)).mono ?_);rintro e w3 ⟨rfl,g3,rfl⟩)|((with_reducible refine(HI2.out _ (HG.out.below bT)).mono ?_);rintro e w3 ⟨rfl,g3,rfl⟩)|((with_reducible refine(HI3.out _ (HG.out.below bT)).mono ?_);rintro e w4 ⟨rfl,g4,rfl⟩))|(go_at_call 8;(with_reducible refine(HP.out _ (HG.out.below bT)).mono ?_);rintro e w5 ⟨rfl,g5,rfl⟩))
 go_ret2
 exact⟨rfl,more_of_below bT⟩
theorem ln_compile_yes(N T:ByteArray)(z1 z2 z3:Int)(w:World)(hg:Gc w)(sN:(N.size:Int)≤40000)(HP:Hid (∀ w,Gc w→Calls Tryz.prog 8 #[.string ((⟨#[99,111,109,112,105,108,101,32]⟩:ByteArray)++N)] w fun e w'=>e=.returned (.tuple #[.agg #[.int .i64 3,.string N,.string T,.int .i64 z1,.int .i64 z2,.int .i64 z3],.int .i64 0])∧∃ g,w'=more w g))  :
  Calls Tryz.prog 11 #[.agg #[.int .i64 3,.string N,.string T,.int .i64 z1,.int .i64 z2,.int .i64 z3]] w fun e w'=>e=.returned (.tuple #[.string ((⟨#[99,111,109,112,105,108,101,32]⟩:ByteArray)++N),.int .i64 0])∧∃ g,w'=more w g:=by
 have HG:=hid hg
 clear hg
 go_enter Tryz.func11,Tryz.ntmps11
 go_wp2_with (first|(go_at_call 21;(with_reducible refine(HH.out _).mono ?_);rintro e w2 ⟨rfl,g2,rfl⟩)|(go_at_call 22;first|((with_reducible refine(HI1.out _ (HG.out.below bT)).mono ?_);rintro e w3 ⟨rfl,g3,rfl⟩)|((with_reducible refine(HI2.out _ (HG.out.below bT)).mono ?_);rintro e w3 ⟨rfl,g3,rfl⟩)|((with_reducible refine(HI3.out _ (HG.out.below bT)).mono ?_);rintro e w4 ⟨rfl,g4,rfl⟩))|(go_at_call 8;(with_reducible refine(HP.out _ (HG.out.below bT)).mono ?_);rintro e w5 ⟨rfl,g5,rfl⟩))
 go_ret2
 exact⟨rfl,more_of_below bT⟩
theorem ln_compile_err(N T:ByteArray)(z1 z2 z3:Int)(w:World)(hg:Gc w)(sN:(N.size:Int)≤40000)(HP:Hid (∀ w,Gc w→Calls Tryz.prog 8 #[.string ((⟨#[99,111,109,112,105,108,101,32]⟩:ByteArray)++N)] w fun e w'=>e=.returned (.tuple #[.agg #[.int .i64 0,.string ⟨#[]⟩,.string ⟨#[]⟩,.int .i64 0,.int .i64 0,.int .i64 0],.int .i64 60])∧∃ g,w'=more w g))  :
  Calls Tryz.prog 11 #[.agg #[.int .i64 3,.string N,.string T,.int .i64 z1,.int .i64 z2,.int .i64 z3]] w fun e w'=>e=.returned (.tuple #[.string ⟨#[]⟩,.int .i64 1])∧∃ g,w'=more w g:=by
 have HG:=hid hg
 clear hg
 go_enter Tryz.func11,Tryz.ntmps11
 go_wp2_with (first|(go_at_call 21;(with_reducible refine(HH.out _).mono ?_);rintro e w2 ⟨rfl,g2,rfl⟩)|(go_at_call 22;first|((with_reducible refine(HI1.out _ (HG.out.below bT)).mono ?_);rintro e w3 ⟨rfl,g3,rfl⟩)|((with_reducible refine(HI2.out _ (HG.out.below bT)).mono ?_);rintro e w3 ⟨rfl,g3,rfl⟩)|((with_reducible refine(HI3.out _ (HG.out.below bT)).mono ?_);rintro e w4 ⟨rfl,g4,rfl⟩))|(go_at_call 8;(with_reducible refine(HP.out _ (HG.out.below bT)).mono ?_);rintro e w5 ⟨rfl,g5,rfl⟩))
 go_ret2
 exact⟨rfl,more_of_below bT⟩
theorem ln_compile_ne(N T:ByteArray)(z1 z2 z3:Int)(K1 K2:ByteArray)(k0 k3 k4 k5:Int)(w:World)(hg:Gc w)(sN:(N.size:Int)≤40000)(HP:Hid (∀ w,Gc w→Calls Tryz.prog 8 #[.string ((⟨#[99,111,109,112,105,108,101,32]⟩:ByteArray)++N)] w fun e w'=>e=.returned (.tuple #[.agg #[.int .i64 k0,.string K1,.string K2,.int .i64 k3,.int .i64 k4,.int .i64 k5],.int .i64 0])∧∃ g,w'=more w g))(HQ:∀ w,(binOp BinOp.neq 26 (.agg #[.int .i64 k0,.string K1,.string K2,.int .i64 k3,.int .i64 k4,.int .i64 k5]) (.agg #[.int .i64 3,.string N,.string T,.int .i64 z1,.int .i64 z2,.int .i64 z3])).run Tryz.prog w=.ok (.bool true) w) :
  Calls Tryz.prog 11 #[.agg #[.int .i64 3,.string N,.string T,.int .i64 z1,.int .i64 z2,.int .i64 z3]] w fun e w'=>e=.returned (.tuple #[.string ⟨#[]⟩,.int .i64 1])∧∃ g,w'=more w g:=by
 have HG:=hid hg
 clear hg
 go_enter Tryz.func11,Tryz.ntmps11
 go_wp2_with (first|(go_at_call 21;(with_reducible refine(HH.out _).mono ?_);rintro e w2 ⟨rfl,g2,rfl⟩)|(go_at_call 22;first|((with_reducible refine(HI1.out _ (HG.out.below bT)).mono ?_);rintro e w3 ⟨rfl,g3,rfl⟩)|((with_reducible refine(HI2.out _ (HG.out.below bT)).mono ?_);rintro e w3 ⟨rfl,g3,rfl⟩)|((with_reducible refine(HI3.out _ (HG.out.below bT)).mono ?_);rintro e w4 ⟨rfl,g4,rfl⟩))|(go_at_call 8;(with_reducible refine(HP.out _ (HG.out.below bT)).mono ?_);rintro e w5 ⟨rfl,g5,rfl⟩))
 go_ret2
 exact⟨rfl,more_of_below bT⟩
theorem ln_load_yes(N T I2 I3:ByteArray)(z1 z2 z3:Int)(w:World)(hg:Gc w)(sN:(N.size:Int)≤40000)(sI2:(I2.size:Int)≤20)(sI3:(I3.size:Int)≤20)(HI2:Hid (∀ w,Gc w→Calls Tryz.prog 22 #[.int .i64 z2] w fun e w'=>e=.returned (.string I2)∧∃ g,w'=more w g))(HI3:Hid (∀ w,Gc w→Calls Tryz.prog 22 #[.int .i64 z3] w fun e w'=>e=.returned (.string I3)∧∃ g,w'=more w g))(HP:Hid (∀ w,Gc w→Calls Tryz.prog 8 #[.string ((⟨#[108,111,97,100,32]⟩:ByteArray)++N++(⟨#[32]⟩:ByteArray)++I2++(⟨#[32]⟩:ByteArray)++I3)] w fun e w'=>e=.returned (.tuple #[.agg #[.int .i64 4,.string N,.string T,.int .i64 z1,.int .i64 z2,.int .i64 z3],.int .i64 0])∧∃ g,w'=more w g))  :
  Calls Tryz.prog 11 #[.agg #[.int .i64 4,.string N,.string T,.int .i64 z1,.int .i64 z2,.int .i64 z3]] w fun e w'=>e=.returned (.tuple #[.string ((⟨#[108,111,97,100,32]⟩:ByteArray)++N++(⟨#[32]⟩:ByteArray)++I2++(⟨#[32]⟩:ByteArray)++I3),.int .i64 0])∧∃ g,w'=more w g:=by
 have HG:=hid hg
 clear hg
 go_enter Tryz.func11,Tryz.ntmps11
 go_wp2
 refine wp_region_more (by kernel_rfl) (by kernel_rfl) ?_
 repeat(first|go_big_quiet_skip|(go_big_quiet_want;go_big_quiet_op;first|go_big_quiet_on|(apply Exists.intro;refine⟨fun _=>?_,?_⟩;(focus(first|(go_at_call 21;exact mo_in (HH.out _))|(go_at_call 22;first|exact mo_in (HI1.out _ (HG.out.below bT))|exact mo_in (HI2.out _ (HG.out.below bT))|exact mo_in (HI3.out _ (HG.out.below bT)))));go_big_quiet_on)))
 refine wpQuiet_nil ?_
 intro _ hw'
 obtain⟨gq,rfl⟩:=hw'
 go_wp2_with (first|(go_at_call 21;(with_reducible refine(HH.out _).mono ?_);rintro e w2 ⟨rfl,g2,rfl⟩)|(go_at_call 22;first|((with_reducible refine(HI1.out _ (HG.out.below bT)).mono ?_);rintro e w3 ⟨rfl,g3,rfl⟩)|((with_reducible refine(HI2.out _ (HG.out.below bT)).mono ?_);rintro e w3 ⟨rfl,g3,rfl⟩)|((with_reducible refine(HI3.out _ (HG.out.below bT)).mono ?_);rintro e w4 ⟨rfl,g4,rfl⟩))|(go_at_call 8;(with_reducible refine(HP.out _ (HG.out.below bT)).mono ?_);rintro e w5 ⟨rfl,g5,rfl⟩))
 go_ret2
 exact⟨rfl,more_of_below bT⟩
theorem ln_load_err(N T I2 I3:ByteArray)(z1 z2 z3:Int)(w:World)(hg:Gc w)(sN:(N.size:Int)≤40000)(sI2:(I2.size:Int)≤20)(sI3:(I3.size:Int)≤20)(HI2:Hid (∀ w,Gc w→Calls Tryz.prog 22 #[.int .i64 z2] w fun e w'=>e=.returned (.string I2)∧∃ g,w'=more w g))(HI3:Hid (∀ w,Gc w→Calls Tryz.prog 22 #[.int .i64 z3] w fun e w'=>e=.returned (.string I3)∧∃ g,w'=more w g))(HP:Hid (∀ w,Gc w→Calls Tryz.prog 8 #[.string ((⟨#[108,111,97,100,32]⟩:ByteArray)++N++(⟨#[32]⟩:ByteArray)++I2++(⟨#[32]⟩:ByteArray)++I3)] w fun e w'=>e=.returned (.tuple #[.agg #[.int .i64 0,.string ⟨#[]⟩,.string ⟨#[]⟩,.int .i64 0,.int .i64 0,.int .i64 0],.int .i64 60])∧∃ g,w'=more w g))  :
  Calls Tryz.prog 11 #[.agg #[.int .i64 4,.string N,.string T,.int .i64 z1,.int .i64 z2,.int .i64 z3]] w fun e w'=>e=.returned (.tuple #[.string ⟨#[]⟩,.int .i64 1])∧∃ g,w'=more w g:=by
 have HG:=hid hg
 clear hg
 go_enter Tryz.func11,Tryz.ntmps11
 go_wp2
 refine wp_region_more (by kernel_rfl) (by kernel_rfl) ?_
 repeat(first|go_big_quiet_skip|(go_big_quiet_want;go_big_quiet_op;first|go_big_quiet_on|(apply Exists.intro;refine⟨fun _=>?_,?_⟩;(focus(first|(go_at_call 21;exact mo_in (HH.out _))|(go_at_call 22;first|exact mo_in (HI1.out _ (HG.out.below bT))|exact mo_in (HI2.out _ (HG.out.below bT))|exact mo_in (HI3.out _ (HG.out.below bT)))));go_big_quiet_on)))
 refine wpQuiet_nil ?_
 intro _ hw'
 obtain⟨gq,rfl⟩:=hw'
 go_wp2_with (first|(go_at_call 21;(with_reducible refine(HH.out _).mono ?_);rintro e w2 ⟨rfl,g2,rfl⟩)|(go_at_call 22;first|((with_reducible refine(HI1.out _ (HG.out.below bT)).mono ?_);rintro e w3 ⟨rfl,g3,rfl⟩)|((with_reducible refine(HI2.out _ (HG.out.below bT)).mono ?_);rintro e w3 ⟨rfl,g3,rfl⟩)|((with_reducible refine(HI3.out _ (HG.out.below bT)).mono ?_);rintro e w4 ⟨rfl,g4,rfl⟩))|(go_at_call 8;(with_reducible refine(HP.out _ (HG.out.below bT)).mono ?_);rintro e w5 ⟨rfl,g5,rfl⟩))
 go_ret2
 exact⟨rfl,more_of_below bT⟩
theorem ln_load_ne(N T I2 I3:ByteArray)(z1 z2 z3:Int)(K1 K2:ByteArray)(k0 k3 k4 k5:Int)(w:World)(hg:Gc w)(sN:(N.size:Int)≤40000)(sI2:(I2.size:Int)≤20)(sI3:(I3.size:Int)≤20)(HI2:Hid (∀ w,Gc w→Calls Tryz.prog 22 #[.int .i64 z2] w fun e w'=>e=.returned (.string I2)∧∃ g,w'=more w g))(HI3:Hid (∀ w,Gc w→Calls Tryz.prog 22 #[.int .i64 z3] w fun e w'=>e=.returned (.string I3)∧∃ g,w'=more w g))(HP:Hid (∀ w,Gc w→Calls Tryz.prog 8 #[.string ((⟨#[108,111,97,100,32]⟩:ByteArray)++N++(⟨#[32]⟩:ByteArray)++I2++(⟨#[32]⟩:ByteArray)++I3)] w fun e w'=>e=.returned (.tuple #[.agg #[.int .i64 k0,.string K1,.string K2,.int .i64 k3,.int .i64 k4,.int .i64 k5],.int .i64 0])∧∃ g,w'=more w g))(HQ:∀ w,(binOp BinOp.neq 26 (.agg #[.int .i64 k0,.string K1,.string K2,.int .i64 k3,.int .i64 k4,.int .i64 k5]) (.agg #[.int .i64 4,.string N,.string T,.int .i64 z1,.int .i64 z2,.int .i64 z3])).run Tryz.prog w=.ok (.bool true) w) :
  Calls Tryz.prog 11 #[.agg #[.int .i64 4,.string N,.string T,.int .i64 z1,.int .i64 z2,.int .i64 z3]] w fun e w'=>e=.returned (.tuple #[.string ⟨#[]⟩,.int .i64 1])∧∃ g,w'=more w g:=by
 have HG:=hid hg
 clear hg
 go_enter Tryz.func11,Tryz.ntmps11
 go_wp2
 refine wp_region_more (by kernel_rfl) (by kernel_rfl) ?_
 repeat(first|go_big_quiet_skip|(go_big_quiet_want;go_big_quiet_op;first|go_big_quiet_on|(apply Exists.intro;refine⟨fun _=>?_,?_⟩;(focus(first|(go_at_call 21;exact mo_in (HH.out _))|(go_at_call 22;first|exact mo_in (HI1.out _ (HG.out.below bT))|exact mo_in (HI2.out _ (HG.out.below bT))|exact mo_in (HI3.out _ (HG.out.below bT)))));go_big_quiet_on)))
 refine wpQuiet_nil ?_
 intro _ hw'
 obtain⟨gq,rfl⟩:=hw'
 go_wp2_with (first|(go_at_call 21;(with_reducible refine(HH.out _).mono ?_);rintro e w2 ⟨rfl,g2,rfl⟩)|(go_at_call 22;first|((with_reducible refine(HI1.out _ (HG.out.below bT)).mono ?_);rintro e w3 ⟨rfl,g3,rfl⟩)|((with_reducible refine(HI2.out _ (HG.out.below bT)).mono ?_);rintro e w3 ⟨rfl,g3,rfl⟩)|((with_reducible refine(HI3.out _ (HG.out.below bT)).mono ?_);rintro e w4 ⟨rfl,g4,rfl⟩))|(go_at_call 8;(with_reducible refine(HP.out _ (HG.out.below bT)).mono ?_);rintro e w5 ⟨rfl,g5,rfl⟩))
 go_ret2
 exact⟨rfl,more_of_below bT⟩
theorem ln_run_yes(N T H I1:ByteArray)(z1 z2 z3:Int)(w:World)(hg:Gc w)(sN:(N.size:Int)≤40000)(sH:(H.size:Int)≤80001)(sI1:(I1.size:Int)≤20)(HH:Hid (∀ w,Calls Tryz.prog 21 #[.string T] w fun e w'=>e=.returned (.string H)∧∃ g,w'=more w g))(HI1:Hid (∀ w,Gc w→Calls Tryz.prog 22 #[.int .i64 z1] w fun e w'=>e=.returned (.string I1)∧∃ g,w'=more w g))(HP:Hid (∀ w,Gc w→Calls Tryz.prog 8 #[.string ((⟨#[114,117,110,32]⟩:ByteArray)++I1++(⟨#[32]⟩:ByteArray)++H)] w fun e w'=>e=.returned (.tuple #[.agg #[.int .i64 5,.string N,.string T,.int .i64 z1,.int .i64 z2,.int .i64 z3],.int .i64 0])∧∃ g,w'=more w g))  :
  Calls Tryz.prog 11 #[.agg #[.int .i64 5,.string N,.string T,.int .i64 z1,.int .i64 z2,.int .i64 z3]] w fun e w'=>e=.returned (.tuple #[.string ((⟨#[114,117,110,32]⟩:ByteArray)++I1++(⟨#[32]⟩:ByteArray)++H),.int .i64 0])∧∃ g,w'=more w g:=by
 have HG:=hid hg
 clear hg
 go_enter Tryz.func11,Tryz.ntmps11
 go_wp2
 refine wp_region_more (by kernel_rfl) (by kernel_rfl) ?_
 repeat(first|go_big_quiet_skip|(go_big_quiet_want;go_big_quiet_op;first|go_big_quiet_on|(apply Exists.intro;refine⟨fun _=>?_,?_⟩;(focus(first|(go_at_call 21;exact mo_in (HH.out _))|(go_at_call 22;first|exact mo_in (HI1.out _ (HG.out.below bT))|exact mo_in (HI2.out _ (HG.out.below bT))|exact mo_in (HI3.out _ (HG.out.below bT)))));go_big_quiet_on)))
 refine wpQuiet_nil ?_
 intro _ hw'
 obtain⟨gq,rfl⟩:=hw'
 go_wp2_with (first|(go_at_call 21;(with_reducible refine(HH.out _).mono ?_);rintro e w2 ⟨rfl,g2,rfl⟩)|(go_at_call 22;first|((with_reducible refine(HI1.out _ (HG.out.below bT)).mono ?_);rintro e w3 ⟨rfl,g3,rfl⟩)|((with_reducible refine(HI2.out _ (HG.out.below bT)).mono ?_);rintro e w3 ⟨rfl,g3,rfl⟩)|((with_reducible refine(HI3.out _ (HG.out.below bT)).mono ?_);rintro e w4 ⟨rfl,g4,rfl⟩))|(go_at_call 8;(with_reducible refine(HP.out _ (HG.out.below bT)).mono ?_);rintro e w5 ⟨rfl,g5,rfl⟩))
 go_ret2
 exact⟨rfl,more_of_below bT⟩
theorem ln_run_err(N T H I1:ByteArray)(z1 z2 z3:Int)(w:World)(hg:Gc w)(sN:(N.size:Int)≤40000)(sH:(H.size:Int)≤80001)(sI1:(I1.size:Int)≤20)(HH:Hid (∀ w,Calls Tryz.prog 21 #[.string T] w fun e w'=>e=.returned (.string H)∧∃ g,w'=more w g))(HI1:Hid (∀ w,Gc w→Calls Tryz.prog 22 #[.int .i64 z1] w fun e w'=>e=.returned (.string I1)∧∃ g,w'=more w g))(HP:Hid (∀ w,Gc w→Calls Tryz.prog 8 #[.string ((⟨#[114,117,110,32]⟩:ByteArray)++I1++(⟨#[32]⟩:ByteArray)++H)] w fun e w'=>e=.returned (.tuple #[.agg #[.int .i64 0,.string ⟨#[]⟩,.string ⟨#[]⟩,.int .i64 0,.int .i64 0,.int .i64 0],.int .i64 60])∧∃ g,w'=more w g))  :
  Calls Tryz.prog 11 #[.agg #[.int .i64 5,.string N,.string T,.int .i64 z1,.int .i64 z2,.int .i64 z3]] w fun e w'=>e=.returned (.tuple #[.string ⟨#[]⟩,.int .i64 1])∧∃ g,w'=more w g:=by
 have HG:=hid hg
 clear hg
 go_enter Tryz.func11,Tryz.ntmps11
 go_wp2
 refine wp_region_more (by kernel_rfl) (by kernel_rfl) ?_
 repeat(first|go_big_quiet_skip|(go_big_quiet_want;go_big_quiet_op;first|go_big_quiet_on|(apply Exists.intro;refine⟨fun _=>?_,?_⟩;(focus(first|(go_at_call 21;exact mo_in (HH.out _))|(go_at_call 22;first|exact mo_in (HI1.out _ (HG.out.below bT))|exact mo_in (HI2.out _ (HG.out.below bT))|exact mo_in (HI3.out _ (HG.out.below bT)))));go_big_quiet_on)))
 refine wpQuiet_nil ?_
 intro _ hw'
 obtain⟨gq,rfl⟩:=hw'
 go_wp2_with (first|(go_at_call 21;(with_reducible refine(HH.out _).mono ?_);rintro e w2 ⟨rfl,g2,rfl⟩)|(go_at_call 22;first|((with_reducible refine(HI1.out _ (HG.out.below bT)).mono ?_);rintro e w3 ⟨rfl,g3,rfl⟩)|((with_reducible refine(HI2.out _ (HG.out.below bT)).mono ?_);rintro e w3 ⟨rfl,g3,rfl⟩)|((with_reducible refine(HI3.out _ (HG.out.below bT)).mono ?_);rintro e w4 ⟨rfl,g4,rfl⟩))|(go_at_call 8;(with_reducible refine(HP.out _ (HG.out.below bT)).mono ?_);rintro e w5 ⟨rfl,g5,rfl⟩))
 go_ret2
 exact⟨rfl,more_of_below bT⟩
theorem ln_run_ne(N T H I1:ByteArray)(z1 z2 z3:Int)(K1 K2:ByteArray)(k0 k3 k4 k5:Int)(w:World)(hg:Gc w)(sN:(N.size:Int)≤40000)(sH:(H.size:Int)≤80001)(sI1:(I1.size:Int)≤20)(HH:Hid (∀ w,Calls Tryz.prog 21 #[.string T] w fun e w'=>e=.returned (.string H)∧∃ g,w'=more w g))(HI1:Hid (∀ w,Gc w→Calls Tryz.prog 22 #[.int .i64 z1] w fun e w'=>e=.returned (.string I1)∧∃ g,w'=more w g))(HP:Hid (∀ w,Gc w→Calls Tryz.prog 8 #[.string ((⟨#[114,117,110,32]⟩:ByteArray)++I1++(⟨#[32]⟩:ByteArray)++H)] w fun e w'=>e=.returned (.tuple #[.agg #[.int .i64 k0,.string K1,.string K2,.int .i64 k3,.int .i64 k4,.int .i64 k5],.int .i64 0])∧∃ g,w'=more w g))(HQ:∀ w,(binOp BinOp.neq 26 (.agg #[.int .i64 k0,.string K1,.string K2,.int .i64 k3,.int .i64 k4,.int .i64 k5]) (.agg #[.int .i64 5,.string N,.string T,.int .i64 z1,.int .i64 z2,.int .i64 z3])).run Tryz.prog w=.ok (.bool true) w) :
  Calls Tryz.prog 11 #[.agg #[.int .i64 5,.string N,.string T,.int .i64 z1,.int .i64 z2,.int .i64 z3]] w fun e w'=>e=.returned (.tuple #[.string ⟨#[]⟩,.int .i64 1])∧∃ g,w'=more w g:=by
 have HG:=hid hg
 clear hg
 go_enter Tryz.func11,Tryz.ntmps11
 go_wp2
 refine wp_region_more (by kernel_rfl) (by kernel_rfl) ?_
 repeat(first|go_big_quiet_skip|(go_big_quiet_want;go_big_quiet_op;first|go_big_quiet_on|(apply Exists.intro;refine⟨fun _=>?_,?_⟩;(focus(first|(go_at_call 21;exact mo_in (HH.out _))|(go_at_call 22;first|exact mo_in (HI1.out _ (HG.out.below bT))|exact mo_in (HI2.out _ (HG.out.below bT))|exact mo_in (HI3.out _ (HG.out.below bT)))));go_big_quiet_on)))
 refine wpQuiet_nil ?_
 intro _ hw'
 obtain⟨gq,rfl⟩:=hw'
 go_wp2_with (first|(go_at_call 21;(with_reducible refine(HH.out _).mono ?_);rintro e w2 ⟨rfl,g2,rfl⟩)|(go_at_call 22;first|((with_reducible refine(HI1.out _ (HG.out.below bT)).mono ?_);rintro e w3 ⟨rfl,g3,rfl⟩)|((with_reducible refine(HI2.out _ (HG.out.below bT)).mono ?_);rintro e w3 ⟨rfl,g3,rfl⟩)|((with_reducible refine(HI3.out _ (HG.out.below bT)).mono ?_);rintro e w4 ⟨rfl,g4,rfl⟩))|(go_at_call 8;(with_reducible refine(HP.out _ (HG.out.below bT)).mono ?_);rintro e w5 ⟨rfl,g5,rfl⟩))
 go_ret2
 exact⟨rfl,more_of_below bT⟩
theorem ln_other(op:Int)(N T:ByteArray)(z1 z2 z3:Int)(w:World)(hg:Gc w)(o1:(op == 1)=false)(o2:(op == 2)=false)(o3:(op == 3)=false)(o4:(op == 4)=false)(o5:(op == 5)=false)(HP:Hid (∀ w,Gc w→Calls Tryz.prog 8 #[.string (⟨#[]⟩)] w fun e w'=>e=.returned (.tuple #[.agg #[.int .i64 0,.string ⟨#[]⟩,.string ⟨#[]⟩,.int .i64 0,.int .i64 0,.int .i64 0],.int .i64 60])∧∃ g,w'=more w g)) :
  Calls Tryz.prog 11 #[.agg #[.int .i64 op,.string N,.string T,.int .i64 z1,.int .i64 z2,.int .i64 z3]] w fun e w'=>e=.returned (.tuple #[.string ⟨#[]⟩,.int .i64 1])∧∃ g,w'=more w g:=by
 have HG:=hid hg
 clear hg
 go_enter Tryz.func11,Tryz.ntmps11
 go_wp2_with (first|(go_at_call 21;(with_reducible refine(HH.out _).mono ?_);rintro e w2 ⟨rfl,g2,rfl⟩)|(go_at_call 22;first|((with_reducible refine(HI1.out _ (HG.out.below bT)).mono ?_);rintro e w3 ⟨rfl,g3,rfl⟩)|((with_reducible refine(HI2.out _ (HG.out.below bT)).mono ?_);rintro e w3 ⟨rfl,g3,rfl⟩)|((with_reducible refine(HI3.out _ (HG.out.below bT)).mono ?_);rintro e w4 ⟨rfl,g4,rfl⟩))|(go_at_call 8;(with_reducible refine(HP.out _ (HG.out.below bT)).mono ?_);rintro e w5 ⟨rfl,g5,rfl⟩))
 go_ret2
 exact⟨rfl,more_of_below bT⟩
theorem same_yes(A1 A2:ByteArray)(a0 a3 a4 a5:Int)(w:World):Calls Tryz.prog 10 #[.agg #[.int .i64 a0,.string A1,.string A2,.int .i64 a3,.int .i64 a4,.int .i64 a5],.agg #[.int .i64 a0,.string A1,.string A2,.int .i64 a3,.int .i64 a4,.int .i64 a5]] w fun e w'=>e=.returned (.bool true)∧∃ g,w'=more w g:=by
 go_enter Tryz.func10,Tryz.ntmps10
 go_wp2
 go_ret
 exact⟨rfl,more_of_below bT⟩
theorem same_no0(A1 A2 B1 B2:ByteArray)(a0 a3 a4 a5 b0 b3 b4 b5:Int)(w:World)(hne:((a0 == b0)=false)):Calls Tryz.prog 10 #[.agg #[.int .i64 a0,.string A1,.string A2,.int .i64 a3,.int .i64 a4,.int .i64 a5],.agg #[.int .i64 b0,.string B1,.string B2,.int .i64 b3,.int .i64 b4,.int .i64 b5]] w fun e w'=>e=.returned (.bool false)∧∃ g,w'=more w g:=by
 go_enter Tryz.func10,Tryz.ntmps10
 go_wp2
 go_ret
 exact⟨rfl,more_of_below bT⟩
theorem same_no1(A1 A2 B1 B2:ByteArray)(a0 a3 a4 a5 b3 b4 b5:Int)(w:World)(hne:((A1.toList == B1.toList)=false)):Calls Tryz.prog 10 #[.agg #[.int .i64 a0,.string A1,.string A2,.int .i64 a3,.int .i64 a4,.int .i64 a5],.agg #[.int .i64 a0,.string B1,.string B2,.int .i64 b3,.int .i64 b4,.int .i64 b5]] w fun e w'=>e=.returned (.bool false)∧∃ g,w'=more w g:=by
 go_enter Tryz.func10,Tryz.ntmps10
 go_wp2
 go_ret
 exact⟨rfl,more_of_below bT⟩
theorem same_no2(A1 A2 B2:ByteArray)(a0 a3 a4 a5 b3 b4 b5:Int)(w:World)(hne:((A2.toList == B2.toList)=false)):Calls Tryz.prog 10 #[.agg #[.int .i64 a0,.string A1,.string A2,.int .i64 a3,.int .i64 a4,.int .i64 a5],.agg #[.int .i64 a0,.string A1,.string B2,.int .i64 b3,.int .i64 b4,.int .i64 b5]] w fun e w'=>e=.returned (.bool false)∧∃ g,w'=more w g:=by
 go_enter Tryz.func10,Tryz.ntmps10
 go_wp2
 go_ret
 exact⟨rfl,more_of_below bT⟩
theorem same_no3(A1 A2  : ByteArray)(a0 a3 a4 a5 b3 b4 b5:Int)(w:World)(hne:((a3 == b3)=false)):Calls Tryz.prog 10 #[.agg #[.int .i64 a0,.string A1,.string A2,.int .i64 a3,.int .i64 a4,.int .i64 a5],.agg #[.int .i64 a0,.string A1,.string A2,.int .i64 b3,.int .i64 b4,.int .i64 b5]] w fun e w'=>e=.returned (.bool false)∧∃ g,w'=more w g:=by
 go_enter Tryz.func10,Tryz.ntmps10
 go_wp2
 go_ret
 exact⟨rfl,more_of_below bT⟩
theorem same_no4(A1 A2  : ByteArray)(a0 a3 a4 a5 b4 b5:Int)(w:World)(hne:((a4 == b4)=false)):Calls Tryz.prog 10 #[.agg #[.int .i64 a0,.string A1,.string A2,.int .i64 a3,.int .i64 a4,.int .i64 a5],.agg #[.int .i64 a0,.string A1,.string A2,.int .i64 a3,.int .i64 b4,.int .i64 b5]] w fun e w'=>e=.returned (.bool false)∧∃ g,w'=more w g:=by
 go_enter Tryz.func10,Tryz.ntmps10
 go_wp2
 go_ret
 exact⟨rfl,more_of_below bT⟩
theorem same_no5(A1 A2  : ByteArray)(a0 a3 a4 a5 b5:Int)(w:World)(hne:((a5 == b5)=false)):Calls Tryz.prog 10 #[.agg #[.int .i64 a0,.string A1,.string A2,.int .i64 a3,.int .i64 a4,.int .i64 a5],.agg #[.int .i64 a0,.string A1,.string A2,.int .i64 a3,.int .i64 a4,.int .i64 b5]] w fun e w'=>e=.returned (.bool false)∧∃ g,w'=more w g:=by
 go_enter Tryz.func10,Tryz.ntmps10
 go_wp2
 go_ret
 exact⟨rfl,more_of_below bT⟩
theorem Cn.str_ne{a b:List UInt8}(h:a ≠ b):((⟨a.toArray⟩:ByteArray).toList == (⟨b.toArray⟩:ByteArray).toList)=false:=by
 rw [ByteArray.toList_eq,ByteArray.toList_eq,beq_eq_false_iff_ne];exact h
theorem same_any(a b:Cn.Cm)(w:World):Calls Tryz.prog 10 #[Cn.cm a,Cn.cm b] w fun e w'=>e=.returned (.bool (decide (a=b)))∧∃ g,w'=more w g:=by
 obtain⟨a0,a1,a2,a3,a4,a5⟩:=a
 obtain⟨b0,b1,b2,b3,b4,b5⟩:=b
 by_cases h0:a0=b0
 ·subst h0
  by_cases h1:a1=b1
  ·subst h1
   by_cases h2:a2=b2
   ·subst h2
    by_cases h3:a3=b3
    ·subst h3
     by_cases h4:a4=b4
     ·subst h4
      by_cases h5:a5=b5
      ·subst h5
       rw [decide_eq_true rfl]
       exact same_yes _ _ _ _ _ _ w
      ·rw [decide_eq_false (by simp [h5])]
       exact same_no5 _ _ _ _ _ _ _ w (by rw [beq_eq_false_iff_ne];exact h5)
     ·rw [decide_eq_false (by simp [h4])]
      exact same_no4 _ _ _ _ _ _ _ _ w (by rw [beq_eq_false_iff_ne];exact h4)
    ·rw [decide_eq_false (by simp [h3])]
     exact same_no3 _ _ _ _ _ _ _ _ _ w (by rw [beq_eq_false_iff_ne];exact h3)
   ·rw [decide_eq_false (by simp [h2])]
    exact same_no2 _ _ _ _ _ _ _ _ _ _ w (Cn.str_ne h2)
  ·rw [decide_eq_false (by simp [h1])]
   exact same_no1 _ _ _ _ _ _ _ _ _ _ _ w (Cn.str_ne h1)
 ·rw [decide_eq_false (by simp [h0])]
  exact same_no0 _ _ _ _ _ _ _ _ _ _ _ _ w (by rw [beq_eq_false_iff_ne];exact h0)
theorem rln_write_yes(N T H:ByteArray)(z1 z2 z3:Int)(w:World)(sN:(N.size:Int)≤40000)(sH:(H.size:Int)≤80001)(HH:Hid (∀ w,Calls Tryz.prog 23 #[.string T] w fun e w'=>e=.returned (.string H)∧∃ g,w'=more w g))(HP:Hid (∀ w,Calls Tryz.prog 9 #[.string ((⟨#[119,114,105,116,101,32]⟩:ByteArray)++N++(⟨#[32]⟩:ByteArray)++H)] w fun e w'=>e=.returned (.tuple #[.agg #[.int .i64 1,.string N,.string T,.int .i64 z1,.int .i64 z2,.int .i64 z3],.int .i64 0])∧∃ g,w'=more w g))(HS:Hid (∀ w,Calls Tryz.prog 10 #[.agg #[.int .i64 1,.string N,.string T,.int .i64 z1,.int .i64 z2,.int .i64 z3],.agg #[.int .i64 1,.string N,.string T,.int .i64 z1,.int .i64 z2,.int .i64 z3]] w fun e w'=>e=.returned (.bool true)∧∃ g,w'=more w g)) :
  Calls Tryz.prog 12 #[.agg #[.int .i64 1,.string N,.string T,.int .i64 z1,.int .i64 z2,.int .i64 z3]] w fun e w'=>e=.returned (.tuple #[.string ((⟨#[119,114,105,116,101,32]⟩:ByteArray)++N++(⟨#[32]⟩:ByteArray)++H),.int .i64 0])∧∃ g,w'=more w g:=by
 go_enter Tryz.func12,Tryz.ntmps12
 go_wp2
 refine wp_region_more (by kernel_rfl) (by kernel_rfl) ?_
 repeat(first|go_big_quiet_skip|(go_big_quiet_want;go_big_quiet_op;first|go_big_quiet_on|(apply Exists.intro;refine⟨fun _=>?_,?_⟩;(focus(first|(go_at_call 23;exact mo_in (HH.out _))|(go_at_call 24;with_reducible first|exact mo_in (HI1.out _)|exact mo_in (HI2.out _)|exact mo_in (HI3.out _))));go_big_quiet_on)))
 refine wpQuiet_nil ?_
 intro _ hw'
 obtain⟨gq,rfl⟩:=hw'
 go_wp2_with (first|(go_at_call 23;(with_reducible refine(HH.out _).mono ?_);rintro e w2 ⟨rfl,g2,rfl⟩)|(go_at_call 24;first|((with_reducible refine(HI1.out _).mono ?_);rintro e w3 ⟨rfl,g3,rfl⟩)|((with_reducible refine(HI2.out _).mono ?_);rintro e w3 ⟨rfl,g3,rfl⟩)|((with_reducible refine(HI3.out _).mono ?_);rintro e w4 ⟨rfl,g4,rfl⟩))|(go_at_call 9;(with_reducible refine(HP.out _).mono ?_);rintro e w5 ⟨rfl,g5,rfl⟩)|(go_at_call 10;(with_reducible refine(HS.out _).mono ?_);rintro e w6 ⟨rfl,g6,rfl⟩))
 go_ret2
 exact⟨rfl,more_of_below bT⟩
theorem rln_write_err(N T H:ByteArray)(z1 z2 z3:Int)(w:World)(sN:(N.size:Int)≤40000)(sH:(H.size:Int)≤80001)(HH:Hid (∀ w,Calls Tryz.prog 23 #[.string T] w fun e w'=>e=.returned (.string H)∧∃ g,w'=more w g))(HP:Hid (∀ w,Calls Tryz.prog 9 #[.string ((⟨#[119,114,105,116,101,32]⟩:ByteArray)++N++(⟨#[32]⟩:ByteArray)++H)] w fun e w'=>e=.returned (.tuple #[.agg #[.int .i64 0,.string ⟨#[]⟩,.string ⟨#[]⟩,.int .i64 0,.int .i64 0,.int .i64 0],.int .i64 60])∧∃ g,w'=more w g))  :
  Calls Tryz.prog 12 #[.agg #[.int .i64 1,.string N,.string T,.int .i64 z1,.int .i64 z2,.int .i64 z3]] w fun e w'=>e=.returned (.tuple #[.string ⟨#[]⟩,.int .i64 1])∧∃ g,w'=more w g:=by
 go_enter Tryz.func12,Tryz.ntmps12
 go_wp2
 refine wp_region_more (by kernel_rfl) (by kernel_rfl) ?_
 repeat(first|go_big_quiet_skip|(go_big_quiet_want;go_big_quiet_op;first|go_big_quiet_on|(apply Exists.intro;refine⟨fun _=>?_,?_⟩;(focus(first|(go_at_call 23;exact mo_in (HH.out _))|(go_at_call 24;with_reducible first|exact mo_in (HI1.out _)|exact mo_in (HI2.out _)|exact mo_in (HI3.out _))));go_big_quiet_on)))
 refine wpQuiet_nil ?_
 intro _ hw'
 obtain⟨gq,rfl⟩:=hw'
 go_wp2_with (first|(go_at_call 23;(with_reducible refine(HH.out _).mono ?_);rintro e w2 ⟨rfl,g2,rfl⟩)|(go_at_call 24;first|((with_reducible refine(HI1.out _).mono ?_);rintro e w3 ⟨rfl,g3,rfl⟩)|((with_reducible refine(HI2.out _).mono ?_);rintro e w3 ⟨rfl,g3,rfl⟩)|((with_reducible refine(HI3.out _).mono ?_);rintro e w4 ⟨rfl,g4,rfl⟩))|(go_at_call 9;(with_reducible refine(HP.out _).mono ?_);rintro e w5 ⟨rfl,g5,rfl⟩)|(go_at_call 10;(with_reducible refine(HS.out _).mono ?_);rintro e w6 ⟨rfl,g6,rfl⟩))
 go_ret2
 exact⟨rfl,more_of_below bT⟩
theorem rln_write_ne(N T H:ByteArray)(z1 z2 z3:Int)(K1 K2:ByteArray)(k0 k3 k4 k5:Int)(w:World)(sN:(N.size:Int)≤40000)(sH:(H.size:Int)≤80001)(HH:Hid (∀ w,Calls Tryz.prog 23 #[.string T] w fun e w'=>e=.returned (.string H)∧∃ g,w'=more w g))(HP:Hid (∀ w,Calls Tryz.prog 9 #[.string ((⟨#[119,114,105,116,101,32]⟩:ByteArray)++N++(⟨#[32]⟩:ByteArray)++H)] w fun e w'=>e=.returned (.tuple #[.agg #[.int .i64 k0,.string K1,.string K2,.int .i64 k3,.int .i64 k4,.int .i64 k5],.int .i64 0])∧∃ g,w'=more w g))(HS:Hid (∀ w,Calls Tryz.prog 10 #[.agg #[.int .i64 k0,.string K1,.string K2,.int .i64 k3,.int .i64 k4,.int .i64 k5],.agg #[.int .i64 1,.string N,.string T,.int .i64 z1,.int .i64 z2,.int .i64 z3]] w fun e w'=>e=.returned (.bool false)∧∃ g,w'=more w g)) :
  Calls Tryz.prog 12 #[.agg #[.int .i64 1,.string N,.string T,.int .i64 z1,.int .i64 z2,.int .i64 z3]] w fun e w'=>e=.returned (.tuple #[.string ⟨#[]⟩,.int .i64 1])∧∃ g,w'=more w g:=by
 go_enter Tryz.func12,Tryz.ntmps12
 go_wp2
 refine wp_region_more (by kernel_rfl) (by kernel_rfl) ?_
 repeat(first|go_big_quiet_skip|(go_big_quiet_want;go_big_quiet_op;first|go_big_quiet_on|(apply Exists.intro;refine⟨fun _=>?_,?_⟩;(focus(first|(go_at_call 23;exact mo_in (HH.out _))|(go_at_call 24;with_reducible first|exact mo_in (HI1.out _)|exact mo_in (HI2.out _)|exact mo_in (HI3.out _))));go_big_quiet_on)))
 refine wpQuiet_nil ?_
 intro _ hw'
 obtain⟨gq,rfl⟩:=hw'
 go_wp2_with (first|(go_at_call 23;(with_reducible refine(HH.out _).mono ?_);rintro e w2 ⟨rfl,g2,rfl⟩)|(go_at_call 24;first|((with_reducible refine(HI1.out _).mono ?_);rintro e w3 ⟨rfl,g3,rfl⟩)|((with_reducible refine(HI2.out _).mono ?_);rintro e w3 ⟨rfl,g3,rfl⟩)|((with_reducible refine(HI3.out _).mono ?_);rintro e w4 ⟨rfl,g4,rfl⟩))|(go_at_call 9;(with_reducible refine(HP.out _).mono ?_);rintro e w5 ⟨rfl,g5,rfl⟩)|(go_at_call 10;(with_reducible refine(HS.out _).mono ?_);rintro e w6 ⟨rfl,g6,rfl⟩))
 go_ret2
 exact⟨rfl,more_of_below bT⟩
theorem rln_delete_yes(N T:ByteArray)(z1 z2 z3:Int)(w:World)(sN:(N.size:Int)≤40000)(HP:Hid (∀ w,Calls Tryz.prog 9 #[.string ((⟨#[100,101,108,101,116,101,32]⟩:ByteArray)++N)] w fun e w'=>e=.returned (.tuple #[.agg #[.int .i64 2,.string N,.string T,.int .i64 z1,.int .i64 z2,.int .i64 z3],.int .i64 0])∧∃ g,w'=more w g))(HS:Hid (∀ w,Calls Tryz.prog 10 #[.agg #[.int .i64 2,.string N,.string T,.int .i64 z1,.int .i64 z2,.int .i64 z3],.agg #[.int .i64 2,.string N,.string T,.int .i64 z1,.int .i64 z2,.int .i64 z3]] w fun e w'=>e=.returned (.bool true)∧∃ g,w'=more w g)) :
  Calls Tryz.prog 12 #[.agg #[.int .i64 2,.string N,.string T,.int .i64 z1,.int .i64 z2,.int .i64 z3]] w fun e w'=>e=.returned (.tuple #[.string ((⟨#[100,101,108,101,116,101,32]⟩:ByteArray)++N),.int .i64 0])∧∃ g,w'=more w g:=by
 go_enter Tryz.func12,Tryz.ntmps12
 go_wp2_with (first|(go_at_call 23;(with_reducible refine(HH.out _).mono ?_);rintro e w2 ⟨rfl,g2,rfl⟩)|(go_at_call 24;first|((with_reducible refine(HI1.out _).mono ?_);rintro e w3 ⟨rfl,g3,rfl⟩)|((with_reducible refine(HI2.out _).mono ?_);rintro e w3 ⟨rfl,g3,rfl⟩)|((with_reducible refine(HI3.out _).mono ?_);rintro e w4 ⟨rfl,g4,rfl⟩))|(go_at_call 9;(with_reducible refine(HP.out _).mono ?_);rintro e w5 ⟨rfl,g5,rfl⟩)|(go_at_call 10;(with_reducible refine(HS.out _).mono ?_);rintro e w6 ⟨rfl,g6,rfl⟩))
 go_ret2
 exact⟨rfl,more_of_below bT⟩
theorem rln_delete_err(N T:ByteArray)(z1 z2 z3:Int)(w:World)(sN:(N.size:Int)≤40000)(HP:Hid (∀ w,Calls Tryz.prog 9 #[.string ((⟨#[100,101,108,101,116,101,32]⟩:ByteArray)++N)] w fun e w'=>e=.returned (.tuple #[.agg #[.int .i64 0,.string ⟨#[]⟩,.string ⟨#[]⟩,.int .i64 0,.int .i64 0,.int .i64 0],.int .i64 60])∧∃ g,w'=more w g))  :
  Calls Tryz.prog 12 #[.agg #[.int .i64 2,.string N,.string T,.int .i64 z1,.int .i64 z2,.int .i64 z3]] w fun e w'=>e=.returned (.tuple #[.string ⟨#[]⟩,.int .i64 1])∧∃ g,w'=more w g:=by
 go_enter Tryz.func12,Tryz.ntmps12
 go_wp2_with (first|(go_at_call 23;(with_reducible refine(HH.out _).mono ?_);rintro e w2 ⟨rfl,g2,rfl⟩)|(go_at_call 24;first|((with_reducible refine(HI1.out _).mono ?_);rintro e w3 ⟨rfl,g3,rfl⟩)|((with_reducible refine(HI2.out _).mono ?_);rintro e w3 ⟨rfl,g3,rfl⟩)|((with_reducible refine(HI3.out _).mono ?_);rintro e w4 ⟨rfl,g4,rfl⟩))|(go_at_call 9;(with_reducible refine(HP.out _).mono ?_);rintro e w5 ⟨rfl,g5,rfl⟩)|(go_at_call 10;(with_reducible refine(HS.out _).mono ?_);rintro e w6 ⟨rfl,g6,rfl⟩))
 go_ret2
 exact⟨rfl,more_of_below bT⟩
theorem rln_delete_ne(N T:ByteArray)(z1 z2 z3:Int)(K1 K2:ByteArray)(k0 k3 k4 k5:Int)(w:World)(sN:(N.size:Int)≤40000)(HP:Hid (∀ w,Calls Tryz.prog 9 #[.string ((⟨#[100,101,108,101,116,101,32]⟩:ByteArray)++N)] w fun e w'=>e=.returned (.tuple #[.agg #[.int .i64 k0,.string K1,.string K2,.int .i64 k3,.int .i64 k4,.int .i64 k5],.int .i64 0])∧∃ g,w'=more w g))(HS:Hid (∀ w,Calls Tryz.prog 10 #[.agg #[.int .i64 k0,.string K1,.string K2,.int .i64 k3,.int .i64 k4,.int .i64 k5],.agg #[.int .i64 2,.string N,.string T,.int .i64 z1,.int .i64 z2,.int .i64 z3]] w fun e w'=>e=.returned (.bool false)∧∃ g,w'=more w g)) :
  Calls Tryz.prog 12 #[.agg #[.int .i64 2,.string N,.string T,.int .i64 z1,.int .i64 z2,.int .i64 z3]] w fun e w'=>e=.returned (.tuple #[.string ⟨#[]⟩,.int .i64 1])∧∃ g,w'=more w g:=by
 go_enter Tryz.func12,Tryz.ntmps12
 go_wp2_with (first|(go_at_call 23;(with_reducible refine(HH.out _).mono ?_);rintro e w2 ⟨rfl,g2,rfl⟩)|(go_at_call 24;first|((with_reducible refine(HI1.out _).mono ?_);rintro e w3 ⟨rfl,g3,rfl⟩)|((with_reducible refine(HI2.out _).mono ?_);rintro e w3 ⟨rfl,g3,rfl⟩)|((with_reducible refine(HI3.out _).mono ?_);rintro e w4 ⟨rfl,g4,rfl⟩))|(go_at_call 9;(with_reducible refine(HP.out _).mono ?_);rintro e w5 ⟨rfl,g5,rfl⟩)|(go_at_call 10;(with_reducible refine(HS.out _).mono ?_);rintro e w6 ⟨rfl,g6,rfl⟩))
 go_ret2
 exact⟨rfl,more_of_below bT⟩
theorem rln_compile_yes(N T:ByteArray)(z1 z2 z3:Int)(w:World)(sN:(N.size:Int)≤40000)(HP:Hid (∀ w,Calls Tryz.prog 9 #[.string ((⟨#[99,111,109,112,105,108,101,32]⟩:ByteArray)++N)] w fun e w'=>e=.returned (.tuple #[.agg #[.int .i64 3,.string N,.string T,.int .i64 z1,.int .i64 z2,.int .i64 z3],.int .i64 0])∧∃ g,w'=more w g))(HS:Hid (∀ w,Calls Tryz.prog 10 #[.agg #[.int .i64 3,.string N,.string T,.int .i64 z1,.int .i64 z2,.int .i64 z3],.agg #[.int .i64 3,.string N,.string T,.int .i64 z1,.int .i64 z2,.int .i64 z3]] w fun e w'=>e=.returned (.bool true)∧∃ g,w'=more w g)) :
  Calls Tryz.prog 12 #[.agg #[.int .i64 3,.string N,.string T,.int .i64 z1,.int .i64 z2,.int .i64 z3]] w fun e w'=>e=.returned (.tuple #[.string ((⟨#[99,111,109,112,105,108,101,32]⟩:ByteArray)++N),.int .i64 0])∧∃ g,w'=more w g:=by
 go_enter Tryz.func12,Tryz.ntmps12
 go_wp2_with (first|(go_at_call 23;(with_reducible refine(HH.out _).mono ?_);rintro e w2 ⟨rfl,g2,rfl⟩)|(go_at_call 24;first|((with_reducible refine(HI1.out _).mono ?_);rintro e w3 ⟨rfl,g3,rfl⟩)|((with_reducible refine(HI2.out _).mono ?_);rintro e w3 ⟨rfl,g3,rfl⟩)|((with_reducible refine(HI3.out _).mono ?_);rintro e w4 ⟨rfl,g4,rfl⟩))|(go_at_call 9;(with_reducible refine(HP.out _).mono ?_);rintro e w5 ⟨rfl,g5,rfl⟩)|(go_at_call 10;(with_reducible refine(HS.out _).mono ?_);rintro e w6 ⟨rfl,g6,rfl⟩))
 go_ret2
 exact⟨rfl,more_of_below bT⟩
theorem rln_compile_err(N T:ByteArray)(z1 z2 z3:Int)(w:World)(sN:(N.size:Int)≤40000)(HP:Hid (∀ w,Calls Tryz.prog 9 #[.string ((⟨#[99,111,109,112,105,108,101,32]⟩:ByteArray)++N)] w fun e w'=>e=.returned (.tuple #[.agg #[.int .i64 0,.string ⟨#[]⟩,.string ⟨#[]⟩,.int .i64 0,.int .i64 0,.int .i64 0],.int .i64 60])∧∃ g,w'=more w g))  :
  Calls Tryz.prog 12 #[.agg #[.int .i64 3,.string N,.string T,.int .i64 z1,.int .i64 z2,.int .i64 z3]] w fun e w'=>e=.returned (.tuple #[.string ⟨#[]⟩,.int .i64 1])∧∃ g,w'=more w g:=by
 go_enter Tryz.func12,Tryz.ntmps12
 go_wp2_with (first|(go_at_call 23;(with_reducible refine(HH.out _).mono ?_);rintro e w2 ⟨rfl,g2,rfl⟩)|(go_at_call 24;first|((with_reducible refine(HI1.out _).mono ?_);rintro e w3 ⟨rfl,g3,rfl⟩)|((with_reducible refine(HI2.out _).mono ?_);rintro e w3 ⟨rfl,g3,rfl⟩)|((with_reducible refine(HI3.out _).mono ?_);rintro e w4 ⟨rfl,g4,rfl⟩))|(go_at_call 9;(with_reducible refine(HP.out _).mono ?_);rintro e w5 ⟨rfl,g5,rfl⟩)|(go_at_call 10;(with_reducible refine(HS.out _).mono ?_);rintro e w6 ⟨rfl,g6,rfl⟩))
 go_ret2
 exact⟨rfl,more_of_below bT⟩
theorem rln_compile_ne(N T:ByteArray)(z1 z2 z3:Int)(K1 K2:ByteArray)(k0 k3 k4 k5:Int)(w:World)(sN:(N.size:Int)≤40000)(HP:Hid (∀ w,Calls Tryz.prog 9 #[.string ((⟨#[99,111,109,112,105,108,101,32]⟩:ByteArray)++N)] w fun e w'=>e=.returned (.tuple #[.agg #[.int .i64 k0,.string K1,.string K2,.int .i64 k3,.int .i64 k4,.int .i64 k5],.int .i64 0])∧∃ g,w'=more w g))(HS:Hid (∀ w,Calls Tryz.prog 10 #[.agg #[.int .i64 k0,.string K1,.string K2,.int .i64 k3,.int .i64 k4,.int .i64 k5],.agg #[.int .i64 3,.string N,.string T,.int .i64 z1,.int .i64 z2,.int .i64 z3]] w fun e w'=>e=.returned (.bool false)∧∃ g,w'=more w g)) :
  Calls Tryz.prog 12 #[.agg #[.int .i64 3,.string N,.string T,.int .i64 z1,.int .i64 z2,.int .i64 z3]] w fun e w'=>e=.returned (.tuple #[.string ⟨#[]⟩,.int .i64 1])∧∃ g,w'=more w g:=by
 go_enter Tryz.func12,Tryz.ntmps12
 go_wp2_with (first|(go_at_call 23;(with_reducible refine(HH.out _).mono ?_);rintro e w2 ⟨rfl,g2,rfl⟩)|(go_at_call 24;first|((with_reducible refine(HI1.out _).mono ?_);rintro e w3 ⟨rfl,g3,rfl⟩)|((with_reducible refine(HI2.out _).mono ?_);rintro e w3 ⟨rfl,g3,rfl⟩)|((with_reducible refine(HI3.out _).mono ?_);rintro e w4 ⟨rfl,g4,rfl⟩))|(go_at_call 9;(with_reducible refine(HP.out _).mono ?_);rintro e w5 ⟨rfl,g5,rfl⟩)|(go_at_call 10;(with_reducible refine(HS.out _).mono ?_);rintro e w6 ⟨rfl,g6,rfl⟩))
 go_ret2
 exact⟨rfl,more_of_below bT⟩
theorem rln_load_yes(N T I2 I3:ByteArray)(z1 z2 z3:Int)(w:World)(sN:(N.size:Int)≤40000)(sI2:(I2.size:Int)≤20)(sI3:(I3.size:Int)≤20)(HI2:Hid (∀ w,Calls Tryz.prog 24 #[.int .i64 z2] w fun e w'=>e=.returned (.string I2)∧∃ g,w'=more w g))(HI3:Hid (∀ w,Calls Tryz.prog 24 #[.int .i64 z3] w fun e w'=>e=.returned (.string I3)∧∃ g,w'=more w g))(p2:0≤z2)(p3:0≤z3)(HP:Hid (∀ w,Calls Tryz.prog 9 #[.string ((⟨#[108,111,97,100,32]⟩:ByteArray)++N++(⟨#[32]⟩:ByteArray)++I2++(⟨#[32]⟩:ByteArray)++I3)] w fun e w'=>e=.returned (.tuple #[.agg #[.int .i64 4,.string N,.string T,.int .i64 z1,.int .i64 z2,.int .i64 z3],.int .i64 0])∧∃ g,w'=more w g))(HS:Hid (∀ w,Calls Tryz.prog 10 #[.agg #[.int .i64 4,.string N,.string T,.int .i64 z1,.int .i64 z2,.int .i64 z3],.agg #[.int .i64 4,.string N,.string T,.int .i64 z1,.int .i64 z2,.int .i64 z3]] w fun e w'=>e=.returned (.bool true)∧∃ g,w'=more w g)) :
  Calls Tryz.prog 12 #[.agg #[.int .i64 4,.string N,.string T,.int .i64 z1,.int .i64 z2,.int .i64 z3]] w fun e w'=>e=.returned (.tuple #[.string ((⟨#[108,111,97,100,32]⟩:ByteArray)++N++(⟨#[32]⟩:ByteArray)++I2++(⟨#[32]⟩:ByteArray)++I3),.int .i64 0])∧∃ g,w'=more w g:=by
 go_enter Tryz.func12,Tryz.ntmps12
 go_wp2
 refine wp_region_more (by kernel_rfl) (by kernel_rfl) ?_
 repeat(first|go_big_quiet_skip|(go_big_quiet_want;go_big_quiet_op;first|go_big_quiet_on|(apply Exists.intro;refine⟨fun _=>?_,?_⟩;(focus(first|(go_at_call 23;exact mo_in (HH.out _))|(go_at_call 24;with_reducible first|exact mo_in (HI1.out _)|exact mo_in (HI2.out _)|exact mo_in (HI3.out _))));go_big_quiet_on)))
 refine wpQuiet_nil ?_
 intro _ hw'
 obtain⟨gq,rfl⟩:=hw'
 go_wp2_with (first|(go_at_call 23;(with_reducible refine(HH.out _).mono ?_);rintro e w2 ⟨rfl,g2,rfl⟩)|(go_at_call 24;first|((with_reducible refine(HI1.out _).mono ?_);rintro e w3 ⟨rfl,g3,rfl⟩)|((with_reducible refine(HI2.out _).mono ?_);rintro e w3 ⟨rfl,g3,rfl⟩)|((with_reducible refine(HI3.out _).mono ?_);rintro e w4 ⟨rfl,g4,rfl⟩))|(go_at_call 9;(with_reducible refine(HP.out _).mono ?_);rintro e w5 ⟨rfl,g5,rfl⟩)|(go_at_call 10;(with_reducible refine(HS.out _).mono ?_);rintro e w6 ⟨rfl,g6,rfl⟩))
 go_ret2
 exact⟨rfl,more_of_below bT⟩
theorem rln_load_err(N T I2 I3:ByteArray)(z1 z2 z3:Int)(w:World)(sN:(N.size:Int)≤40000)(sI2:(I2.size:Int)≤20)(sI3:(I3.size:Int)≤20)(HI2:Hid (∀ w,Calls Tryz.prog 24 #[.int .i64 z2] w fun e w'=>e=.returned (.string I2)∧∃ g,w'=more w g))(HI3:Hid (∀ w,Calls Tryz.prog 24 #[.int .i64 z3] w fun e w'=>e=.returned (.string I3)∧∃ g,w'=more w g))(p2:0≤z2)(p3:0≤z3)(HP:Hid (∀ w,Calls Tryz.prog 9 #[.string ((⟨#[108,111,97,100,32]⟩:ByteArray)++N++(⟨#[32]⟩:ByteArray)++I2++(⟨#[32]⟩:ByteArray)++I3)] w fun e w'=>e=.returned (.tuple #[.agg #[.int .i64 0,.string ⟨#[]⟩,.string ⟨#[]⟩,.int .i64 0,.int .i64 0,.int .i64 0],.int .i64 60])∧∃ g,w'=more w g))  :
  Calls Tryz.prog 12 #[.agg #[.int .i64 4,.string N,.string T,.int .i64 z1,.int .i64 z2,.int .i64 z3]] w fun e w'=>e=.returned (.tuple #[.string ⟨#[]⟩,.int .i64 1])∧∃ g,w'=more w g:=by
 go_enter Tryz.func12,Tryz.ntmps12
 go_wp2
 refine wp_region_more (by kernel_rfl) (by kernel_rfl) ?_
 repeat(first|go_big_quiet_skip|(go_big_quiet_want;go_big_quiet_op;first|go_big_quiet_on|(apply Exists.intro;refine⟨fun _=>?_,?_⟩;(focus(first|(go_at_call 23;exact mo_in (HH.out _))|(go_at_call 24;with_reducible first|exact mo_in (HI1.out _)|exact mo_in (HI2.out _)|exact mo_in (HI3.out _))));go_big_quiet_on)))
 refine wpQuiet_nil ?_
 intro _ hw'
 obtain⟨gq,rfl⟩:=hw'
 go_wp2_with (first|(go_at_call 23;(with_reducible refine(HH.out _).mono ?_);rintro e w2 ⟨rfl,g2,rfl⟩)|(go_at_call 24;first|((with_reducible refine(HI1.out _).mono ?_);rintro e w3 ⟨rfl,g3,rfl⟩)|((with_reducible refine(HI2.out _).mono ?_);rintro e w3 ⟨rfl,g3,rfl⟩)|((with_reducible refine(HI3.out _).mono ?_);rintro e w4 ⟨rfl,g4,rfl⟩))|(go_at_call 9;(with_reducible refine(HP.out _).mono ?_);rintro e w5 ⟨rfl,g5,rfl⟩)|(go_at_call 10;(with_reducible refine(HS.out _).mono ?_);rintro e w6 ⟨rfl,g6,rfl⟩))
 go_ret2
 exact⟨rfl,more_of_below bT⟩
theorem rln_load_ne(N T I2 I3:ByteArray)(z1 z2 z3:Int)(K1 K2:ByteArray)(k0 k3 k4 k5:Int)(w:World)(sN:(N.size:Int)≤40000)(sI2:(I2.size:Int)≤20)(sI3:(I3.size:Int)≤20)(HI2:Hid (∀ w,Calls Tryz.prog 24 #[.int .i64 z2] w fun e w'=>e=.returned (.string I2)∧∃ g,w'=more w g))(HI3:Hid (∀ w,Calls Tryz.prog 24 #[.int .i64 z3] w fun e w'=>e=.returned (.string I3)∧∃ g,w'=more w g))(p2:0≤z2)(p3:0≤z3)(HP:Hid (∀ w,Calls Tryz.prog 9 #[.string ((⟨#[108,111,97,100,32]⟩:ByteArray)++N++(⟨#[32]⟩:ByteArray)++I2++(⟨#[32]⟩:ByteArray)++I3)] w fun e w'=>e=.returned (.tuple #[.agg #[.int .i64 k0,.string K1,.string K2,.int .i64 k3,.int .i64 k4,.int .i64 k5],.int .i64 0])∧∃ g,w'=more w g))(HS:Hid (∀ w,Calls Tryz.prog 10 #[.agg #[.int .i64 k0,.string K1,.string K2,.int .i64 k3,.int .i64 k4,.int .i64 k5],.agg #[.int .i64 4,.string N,.string T,.int .i64 z1,.int .i64 z2,.int .i64 z3]] w fun e w'=>e=.returned (.bool false)∧∃ g,w'=more w g)) :
  Calls Tryz.prog 12 #[.agg #[.int .i64 4,.string N,.string T,.int .i64 z1,.int .i64 z2,.int .i64 z3]] w fun e w'=>e=.returned (.tuple #[.string ⟨#[]⟩,.int .i64 1])∧∃ g,w'=more w g:=by
 go_enter Tryz.func12,Tryz.ntmps12
 go_wp2
 refine wp_region_more (by kernel_rfl) (by kernel_rfl) ?_
 repeat(first|go_big_quiet_skip|(go_big_quiet_want;go_big_quiet_op;first|go_big_quiet_on|(apply Exists.intro;refine⟨fun _=>?_,?_⟩;(focus(first|(go_at_call 23;exact mo_in (HH.out _))|(go_at_call 24;with_reducible first|exact mo_in (HI1.out _)|exact mo_in (HI2.out _)|exact mo_in (HI3.out _))));go_big_quiet_on)))
 refine wpQuiet_nil ?_
 intro _ hw'
 obtain⟨gq,rfl⟩:=hw'
 go_wp2_with (first|(go_at_call 23;(with_reducible refine(HH.out _).mono ?_);rintro e w2 ⟨rfl,g2,rfl⟩)|(go_at_call 24;first|((with_reducible refine(HI1.out _).mono ?_);rintro e w3 ⟨rfl,g3,rfl⟩)|((with_reducible refine(HI2.out _).mono ?_);rintro e w3 ⟨rfl,g3,rfl⟩)|((with_reducible refine(HI3.out _).mono ?_);rintro e w4 ⟨rfl,g4,rfl⟩))|(go_at_call 9;(with_reducible refine(HP.out _).mono ?_);rintro e w5 ⟨rfl,g5,rfl⟩)|(go_at_call 10;(with_reducible refine(HS.out _).mono ?_);rintro e w6 ⟨rfl,g6,rfl⟩))
 go_ret2
 exact⟨rfl,more_of_below bT⟩
theorem rln_run_yes(N T H I1:ByteArray)(z1 z2 z3:Int)(w:World)(sN:(N.size:Int)≤40000)(sH:(H.size:Int)≤80001)(sI1:(I1.size:Int)≤20)(HH:Hid (∀ w,Calls Tryz.prog 23 #[.string T] w fun e w'=>e=.returned (.string H)∧∃ g,w'=more w g))(HI1:Hid (∀ w,Calls Tryz.prog 24 #[.int .i64 z1] w fun e w'=>e=.returned (.string I1)∧∃ g,w'=more w g))(p1:0≤z1)(HP:Hid (∀ w,Calls Tryz.prog 9 #[.string ((⟨#[114,117,110,32]⟩:ByteArray)++I1++(⟨#[32]⟩:ByteArray)++H)] w fun e w'=>e=.returned (.tuple #[.agg #[.int .i64 5,.string N,.string T,.int .i64 z1,.int .i64 z2,.int .i64 z3],.int .i64 0])∧∃ g,w'=more w g))(HS:Hid (∀ w,Calls Tryz.prog 10 #[.agg #[.int .i64 5,.string N,.string T,.int .i64 z1,.int .i64 z2,.int .i64 z3],.agg #[.int .i64 5,.string N,.string T,.int .i64 z1,.int .i64 z2,.int .i64 z3]] w fun e w'=>e=.returned (.bool true)∧∃ g,w'=more w g)) :
  Calls Tryz.prog 12 #[.agg #[.int .i64 5,.string N,.string T,.int .i64 z1,.int .i64 z2,.int .i64 z3]] w fun e w'=>e=.returned (.tuple #[.string ((⟨#[114,117,110,32]⟩:ByteArray)++I1++(⟨#[32]⟩:ByteArray)++H),.int .i64 0])∧∃ g,w'=more w g:=by
 go_enter Tryz.func12,Tryz.ntmps12
 go_wp2
 refine wp_region_more (by kernel_rfl) (by kernel_rfl) ?_
 repeat(first|go_big_quiet_skip|(go_big_quiet_want;go_big_quiet_op;first|go_big_quiet_on|(apply Exists.intro;refine⟨fun _=>?_,?_⟩;(focus(first|(go_at_call 23;exact mo_in (HH.out _))|(go_at_call 24;with_reducible first|exact mo_in (HI1.out _)|exact mo_in (HI2.out _)|exact mo_in (HI3.out _))));go_big_quiet_on)))
 refine wpQuiet_nil ?_
 intro _ hw'
 obtain⟨gq,rfl⟩:=hw'
 go_wp2_with (first|(go_at_call 23;(with_reducible refine(HH.out _).mono ?_);rintro e w2 ⟨rfl,g2,rfl⟩)|(go_at_call 24;first|((with_reducible refine(HI1.out _).mono ?_);rintro e w3 ⟨rfl,g3,rfl⟩)|((with_reducible refine(HI2.out _).mono ?_);rintro e w3 ⟨rfl,g3,rfl⟩)|((with_reducible refine(HI3.out _).mono ?_);rintro e w4 ⟨rfl,g4,rfl⟩))|(go_at_call 9;(with_reducible refine(HP.out _).mono ?_);rintro e w5 ⟨rfl,g5,rfl⟩)|(go_at_call 10;(with_reducible refine(HS.out _).mono ?_);rintro e w6 ⟨rfl,g6,rfl⟩))
 go_ret2
 exact⟨rfl,more_of_below bT⟩
theorem rln_run_err(N T H I1:ByteArray)(z1 z2 z3:Int)(w:World)(sN:(N.size:Int)≤40000)(sH:(H.size:Int)≤80001)(sI1:(I1.size:Int)≤20)(HH:Hid (∀ w,Calls Tryz.prog 23 #[.string T] w fun e w'=>e=.returned (.string H)∧∃ g,w'=more w g))(HI1:Hid (∀ w,Calls Tryz.prog 24 #[.int .i64 z1] w fun e w'=>e=.returned (.string I1)∧∃ g,w'=more w g))(p1:0≤z1)(HP:Hid (∀ w,Calls Tryz.prog 9 #[.string ((⟨#[114,117,110,32]⟩:ByteArray)++I1++(⟨#[32]⟩:ByteArray)++H)] w fun e w'=>e=.returned (.tuple #[.agg #[.int .i64 0,.string ⟨#[]⟩,.string ⟨#[]⟩,.int .i64 0,.int .i64 0,.int .i64 0],.int .i64 60])∧∃ g,w'=more w g))  :
  Calls Tryz.prog 12 #[.agg #[.int .i64 5,.string N,.string T,.int .i64 z1,.int .i64 z2,.int .i64 z3]] w fun e w'=>e=.returned (.tuple #[.string ⟨#[]⟩,.int .i64 1])∧∃ g,w'=more w g:=by
 go_enter Tryz.func12,Tryz.ntmps12
 go_wp2
 refine wp_region_more (by kernel_rfl) (by kernel_rfl) ?_
 repeat(first|go_big_quiet_skip|(go_big_quiet_want;go_big_quiet_op;first|go_big_quiet_on|(apply Exists.intro;refine⟨fun _=>?_,?_⟩;(focus(first|(go_at_call 23;exact mo_in (HH.out _))|(go_at_call 24;with_reducible first|exact mo_in (HI1.out _)|exact mo_in (HI2.out _)|exact mo_in (HI3.out _))));go_big_quiet_on)))
 refine wpQuiet_nil ?_
 intro _ hw'
 obtain⟨gq,rfl⟩:=hw'
 go_wp2_with (first|(go_at_call 23;(with_reducible refine(HH.out _).mono ?_);rintro e w2 ⟨rfl,g2,rfl⟩)|(go_at_call 24;first|((with_reducible refine(HI1.out _).mono ?_);rintro e w3 ⟨rfl,g3,rfl⟩)|((with_reducible refine(HI2.out _).mono ?_);rintro e w3 ⟨rfl,g3,rfl⟩)|((with_reducible refine(HI3.out _).mono ?_);rintro e w4 ⟨rfl,g4,rfl⟩))|(go_at_call 9;(with_reducible refine(HP.out _).mono ?_);rintro e w5 ⟨rfl,g5,rfl⟩)|(go_at_call 10;(with_reducible refine(HS.out _).mono ?_);rintro e w6 ⟨rfl,g6,rfl⟩))
 go_ret2
 exact⟨rfl,more_of_below bT⟩
theorem rln_run_ne(N T H I1:ByteArray)(z1 z2 z3:Int)(K1 K2:ByteArray)(k0 k3 k4 k5:Int)(w:World)(sN:(N.size:Int)≤40000)(sH:(H.size:Int)≤80001)(sI1:(I1.size:Int)≤20)(HH:Hid (∀ w,Calls Tryz.prog 23 #[.string T] w fun e w'=>e=.returned (.string H)∧∃ g,w'=more w g))(HI1:Hid (∀ w,Calls Tryz.prog 24 #[.int .i64 z1] w fun e w'=>e=.returned (.string I1)∧∃ g,w'=more w g))(p1:0≤z1)(HP:Hid (∀ w,Calls Tryz.prog 9 #[.string ((⟨#[114,117,110,32]⟩:ByteArray)++I1++(⟨#[32]⟩:ByteArray)++H)] w fun e w'=>e=.returned (.tuple #[.agg #[.int .i64 k0,.string K1,.string K2,.int .i64 k3,.int .i64 k4,.int .i64 k5],.int .i64 0])∧∃ g,w'=more w g))(HS:Hid (∀ w,Calls Tryz.prog 10 #[.agg #[.int .i64 k0,.string K1,.string K2,.int .i64 k3,.int .i64 k4,.int .i64 k5],.agg #[.int .i64 5,.string N,.string T,.int .i64 z1,.int .i64 z2,.int .i64 z3]] w fun e w'=>e=.returned (.bool false)∧∃ g,w'=more w g)) :
  Calls Tryz.prog 12 #[.agg #[.int .i64 5,.string N,.string T,.int .i64 z1,.int .i64 z2,.int .i64 z3]] w fun e w'=>e=.returned (.tuple #[.string ⟨#[]⟩,.int .i64 1])∧∃ g,w'=more w g:=by
 go_enter Tryz.func12,Tryz.ntmps12
 go_wp2
 refine wp_region_more (by kernel_rfl) (by kernel_rfl) ?_
 repeat(first|go_big_quiet_skip|(go_big_quiet_want;go_big_quiet_op;first|go_big_quiet_on|(apply Exists.intro;refine⟨fun _=>?_,?_⟩;(focus(first|(go_at_call 23;exact mo_in (HH.out _))|(go_at_call 24;with_reducible first|exact mo_in (HI1.out _)|exact mo_in (HI2.out _)|exact mo_in (HI3.out _))));go_big_quiet_on)))
 refine wpQuiet_nil ?_
 intro _ hw'
 obtain⟨gq,rfl⟩:=hw'
 go_wp2_with (first|(go_at_call 23;(with_reducible refine(HH.out _).mono ?_);rintro e w2 ⟨rfl,g2,rfl⟩)|(go_at_call 24;first|((with_reducible refine(HI1.out _).mono ?_);rintro e w3 ⟨rfl,g3,rfl⟩)|((with_reducible refine(HI2.out _).mono ?_);rintro e w3 ⟨rfl,g3,rfl⟩)|((with_reducible refine(HI3.out _).mono ?_);rintro e w4 ⟨rfl,g4,rfl⟩))|(go_at_call 9;(with_reducible refine(HP.out _).mono ?_);rintro e w5 ⟨rfl,g5,rfl⟩)|(go_at_call 10;(with_reducible refine(HS.out _).mono ?_);rintro e w6 ⟨rfl,g6,rfl⟩))
 go_ret2
 exact⟨rfl,more_of_below bT⟩
theorem rln_load_neg2(N T:ByteArray)(z1 z2 z3:Int)(w:World)(p:z2<0) :
  Calls Tryz.prog 12 #[.agg #[.int .i64 4,.string N,.string T,.int .i64 z1,.int .i64 z2,.int .i64 z3]] w fun e w'=>e=.returned (.tuple #[.string ⟨#[]⟩,.int .i64 1])∧∃ g,w'=more w g:=by
 go_enter Tryz.func12,Tryz.ntmps12
 go_wp2
 go_ret2
 exact⟨rfl,more_of_below bT⟩
theorem rln_load_neg3(N T:ByteArray)(z1 z2 z3:Int)(w:World)(p2:0≤z2)(p:z3<0) :
  Calls Tryz.prog 12 #[.agg #[.int .i64 4,.string N,.string T,.int .i64 z1,.int .i64 z2,.int .i64 z3]] w fun e w'=>e=.returned (.tuple #[.string ⟨#[]⟩,.int .i64 1])∧∃ g,w'=more w g:=by
 go_enter Tryz.func12,Tryz.ntmps12
 go_wp2
 go_ret2
 exact⟨rfl,more_of_below bT⟩
theorem rln_run_neg(N T:ByteArray)(z1 z2 z3:Int)(w:World)(p:z1<0) :
  Calls Tryz.prog 12 #[.agg #[.int .i64 5,.string N,.string T,.int .i64 z1,.int .i64 z2,.int .i64 z3]] w fun e w'=>e=.returned (.tuple #[.string ⟨#[]⟩,.int .i64 1])∧∃ g,w'=more w g:=by
 go_enter Tryz.func12,Tryz.ntmps12
 go_wp2
 go_ret2
 exact⟨rfl,more_of_below bT⟩
theorem rln_other(op:Int)(N T:ByteArray)(z1 z2 z3:Int)(w:World)(o1:(op == 1)=false)(o2:(op == 2)=false)(o3:(op == 3)=false)(o4:(op == 4)=false)(o5:(op == 5)=false)(HP:Hid (∀ w,Calls Tryz.prog 9 #[.string (⟨#[]⟩)] w fun e w'=>e=.returned (.tuple #[.agg #[.int .i64 0,.string ⟨#[]⟩,.string ⟨#[]⟩,.int .i64 0,.int .i64 0,.int .i64 0],.int .i64 60])∧∃ g,w'=more w g)) :
  Calls Tryz.prog 12 #[.agg #[.int .i64 op,.string N,.string T,.int .i64 z1,.int .i64 z2,.int .i64 z3]] w fun e w'=>e=.returned (.tuple #[.string ⟨#[]⟩,.int .i64 1])∧∃ g,w'=more w g:=by
 go_enter Tryz.func12,Tryz.ntmps12
 go_wp2_with (first|(go_at_call 23;(with_reducible refine(HH.out _).mono ?_);rintro e w2 ⟨rfl,g2,rfl⟩)|(go_at_call 24;first|((with_reducible refine(HI1.out _).mono ?_);rintro e w3 ⟨rfl,g3,rfl⟩)|((with_reducible refine(HI2.out _).mono ?_);rintro e w3 ⟨rfl,g3,rfl⟩)|((with_reducible refine(HI3.out _).mono ?_);rintro e w4 ⟨rfl,g4,rfl⟩))|(go_at_call 9;(with_reducible refine(HP.out _).mono ?_);rintro e w5 ⟨rfl,g5,rfl⟩)|(go_at_call 10;(with_reducible refine(HS.out _).mono ?_);rintro e w6 ⟨rfl,g6,rfl⟩))
 go_ret2
 exact⟨rfl,more_of_below bT⟩
end Go.Proofs.YthkegfdijohpaaaGreatDoor
