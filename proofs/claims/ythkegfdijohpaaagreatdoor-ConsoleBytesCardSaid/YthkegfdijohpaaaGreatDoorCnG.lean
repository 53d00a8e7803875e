/- What of the library's own variables the package console reads,and the library's functions that it calls;the walk of console's number. Conditions: the variables are as they were laid. -/
import Derived.Test.YthkegfdijohpaaaGreatDoorCnN
import Derived.Test.YthkegfdijohpaaaGreatDoorShelf
import Derived.Test.YthkegfdijohpaaaGreatDoorMoreX
import Derived.Lib.LaidTab
import Derived.Lib.SmallJoins
import Derived.ChangeBears2
import Derived.Lib.ItoaNum
import Derived.BigQuiet
import Derived.Deep.QuietTactic
import Derived.Handy
import Derived.Lib.Hide
namespace Go.Proofs.YthkegfdijohpaaaGreatDoor
set_option linter.all false
open Go.Lib (hid)
set_option maxRecDepth 1000000
set_option maxHeartbeats 16000000
open Go.RowKit
structure Gc(w:World):Prop where
 pow:Lib.TabIs Tryz.prog w "internal/strconv.uint64pow10" .u64 Lib.pow10Tab
 errS:∃ ev,w.var? Tryz.prog "strconv.ErrSyntax" = some #[ev]∧(ev=.nilIface∨∃ te pe,ev=.iface te pe)
theorem cg_errS:Tryz.prog.globalNamed "strconv.ErrSyntax" = some 2:=by kernel_rfl
theorem cg_pow:Tryz.prog.globalNamed "internal/strconv.uint64pow10" = some 0:=by kernel_rfl
theorem Gc.below{w w':World}(h:Gc w)(hb:Below w.heap.size w w'):Gc w':=by
 obtain⟨ev2,h6,h7⟩:=h.errS
 exact⟨Go.Joins.var_stays cg_pow h.pow hb (Nat.le_refl _),⟨ev2,Go.Joins.var_stays cg_errS h6 hb (Nat.le_refl _),h7⟩⟩
theorem Gc.more{w:World}(h:Gc w)(g:Came):Gc (more w g):=h.below (below_more (Below.refl _ _) (Nat.le_refl _) g)
namespace Cn
theorem below_grow{B:Nat}{a w:World}(h:Below B a w)(hB:B≤w.heap.size)(os:Array Obj):Below B a (Go.Sort.grow w os):=
 h.trans ⟨rfl,rfl,rfl,by simp [Go.Sort.grow],fun k hk=>by simp only [Go.Sort.grow];rw [Array.getElem?_append_left (by omega)]⟩
end Cn
theorem citoa_any(n:Int)(h0 : -9223372036854775808≤n)(h1:n≤9223372036854775807)(w:World)(hg:Gc w):Calls Tryz.prog 22 #[.int .i64 n] w fun e w'=>e=.returned (.string ⟨(Lib.itoa n).toArray⟩)∧∃ g,w'=more w g:=by
 refine(Tryz.strconv_Itoa n h0 h1 w hg.pow).mono ?_
 rintro e w' ⟨rfl,k,os,rfl⟩
 exact⟨rfl,more_of_below (Cn.below_grow ((below_drewN (Below.refl _ _) k)) (Nat.le_refl _) os)⟩
theorem cpu_any(s:ByteArray)(w:World)(hg:Gc w)(hs:s.size≤9) :
  Calls Tryz.prog 50 #[.string s,.int .i64 10,.int .i64 32] w fun e w'=>((∃ u:Nat,Cn.puC s.data.toList=some u∧u<1000000000∧e=.returned (.tuple #[.int .u64 u,.nilIface]))∨(Cn.puC s.data.toList=none∧∃ te pe,e=.returned (.tuple #[.int .u64 0,.iface te pe])))∧∃ g,w'=more w g:=by
 have hsl:s.data.toList.length=s.size:=by simp
 cases hp:Cn.puC s.data.toList with
 | some u =>
  obtain⟨h1,h2⟩:=Cn.pu_ok (by omega) hp
  refine(Tryz.strconv_ParseUint_10_at32_ok s (by omega) u h1 w).mono ?_
  rintro e w' ⟨rfl,hw⟩
  refine⟨.inl ⟨u,rfl,h2,rfl⟩,more_of_below ?_⟩
  rcases hw with rfl|rfl
  ·exact Below.refl _ _
  ·exact Go.Joins.below_bytesWorld _ _ _ _ (Nat.le_refl _)
 | none =>
  obtain⟨h1,h2⟩:=Cn.pu_no (by omega) hp
  cases h:Lib.parseUintB 32 s.data.toList
  case ok u=>exact absurd h (h1 u)
  case range=>exact absurd h h2
  ·obtain⟨ev,h3,h4⟩:=hg.errS
   refine(Go.Proofs.Any.strconv_ParseUint_10_at32_syntax Tryz.laysPu14 s (by omega) h ev w (by have:=World.var?_cell cg_errS h3 0;have h5:w.cell? ⟨2,0,none⟩=some ev:=(by simpa using this);exact h5) h4).mono ?_
   rintro e w' ⟨N,rfl,_,_,hb⟩
   exact⟨.inr ⟨rfl,_,_,rfl⟩,more_of_below hb⟩
abbrev CpuIs(s:ByteArray)(u:Int)(er:Value):Prop:=∀ w,Gc w→Calls Tryz.prog 50 #[.string s,.int .i64 10,.int .i64 32] w fun e w'=>e=.returned (.tuple #[.int .u64 u,er])∧∃ g,w'=more w g
theorem cnum_long(s:ByteArray)(w:World)(h:(9:Int)<(s.size:Int)):Calls Tryz.prog 30 #[.string s] w fun e w'=>e=.returned (.tuple #[.int .i64 0,.bool false])∧∃ g,w'=more w g:=by
 go_enter Tryz.func30,Tryz.ntmps30
 go_wp2
 go_ret2
 exact⟨rfl,more_refl _⟩
theorem cnum_zero(s:ByteArray)(w:World)(h1:(1:Int)<(s.size:Int))(h9:(s.size:Int)≤9)(hp:0<s.size)(h0:((s[0]'hp).toNat:Int)=48):Calls Tryz.prog 30 #[.string s] w fun e w'=>e=.returned (.tuple #[.int .i64 0,.bool false])∧∃ g,w'=more w g:=by
 go_enter Tryz.func30,Tryz.ntmps30
 go_wp2
 go_ret2
 exact⟨rfl,more_refl _⟩
def CGoes(s:ByteArray):Prop:=(s.size:Int)≤1∨((1:Int)<(s.size:Int)∧(s.size:Int)≤9∧∃ hp:0<s.size,(((s[0]'hp).toNat:Int) == 48)=false)
theorem cnum_goes(s:ByteArray)(w:World)(hg:Gc w)(h:CGoes s)(u:Int)(b:Bool)(h0:0≤u)(h1:u<1000000000)
  (HP:Hid ((b=true∧∀ w,Gc w→Calls Tryz.prog 50 #[.string s,.int .i64 10,.int .i64 32] w fun e w'=>e=.returned (.tuple #[.int .u64 u,.nilIface])∧∃ g,w'=more w g)∨(b=false∧∀ w,Gc w→Calls Tryz.prog 50 #[.string s,.int .i64 10,.int .i64 32] w fun e w'=>(∃ te pe,e=.returned (.tuple #[.int .u64 u,.iface te pe]))∧∃ g,w'=more w g))) :
  Calls Tryz.prog 30 #[.string s] w fun e w'=>e=.returned (.tuple #[.int .i64 u,.bool b])∧∃ g,w'=more w g:=by
 have HG:=hid hg
 clear hg
 rcases h with h|⟨h,h9,hp,h0'⟩
 all_goals
  rcases HP.out with⟨rfl,hP⟩|⟨rfl,hP⟩
  all_goals
   replace hP:=hid hP
   clear HP
 ·go_enter Tryz.func30,Tryz.ntmps30
  go_wp2_with (go_at_call 50;(with_reducible refine(hP.out _ HG.out).mono ?_);rintro e w2 ⟨rfl,g,rfl⟩)
  go_quiet (fail)
  go_wp2
  go_ret2
  exact⟨rfl,more_of_below bT⟩
 ·go_enter Tryz.func30,Tryz.ntmps30
  go_wp2_with (go_at_call 50;(with_reducible refine(hP.out _ HG.out).mono ?_);rintro e w2 ⟨⟨te,pe,rfl⟩,g,rfl⟩)
  go_quiet (fail)
  go_wp2
  go_ret2
  exact⟨rfl,more_of_below bT⟩
 ·go_enter Tryz.func30,Tryz.ntmps30
  go_wp2_with (go_at_call 50;(with_reducible refine(hP.out _ HG.out).mono ?_);rintro e w2 ⟨rfl,g,rfl⟩)
  go_quiet (fail)
  go_wp2
  go_ret2
  exact⟨rfl,more_of_below bT⟩
 ·go_enter Tryz.func30,Tryz.ntmps30
  go_wp2_with (go_at_call 50;(with_reducible refine(hP.out _ HG.out).mono ?_);rintro e w2 ⟨⟨te,pe,rfl⟩,g,rfl⟩)
  go_quiet (fail)
  go_wp2
  go_ret2
  exact⟨rfl,more_of_below bT⟩
theorem cnum_any(s:ByteArray)(w:World)(hg:Gc w):Calls Tryz.prog 30 #[.string s] w fun e w'=>e=.returned (.tuple #[.int .i64 (Cn.numO s.data.toList).1,.bool (Cn.numO s.data.toList).2])∧∃ g,w'=more w g:=by
 have hsl:s.data.toList.length=s.size:=by simp
 by_cases h9:9<s.size
 ·rw [Cn.numO_long (by omega)]
  exact cnum_long s w (by omega)
 ·by_cases hz:1<s.data.toList.length∧s.data.toList.head?=some 48
  ·rw [Cn.numO_zero hz.1 hz.2]
   have hp:0<s.size:=by omega
   refine cnum_zero s w (by omega) (by omega) hp ?_
   have:=hz.2
   rw [List.head?_eq_getElem?,List.getElem?_eq_getElem (by omega)]at this
   have h2:s[0]'hp=48:=Option.some.inj this
   rw [h2];rfl
  ·have hgo:CGoes s:=by
    by_cases h1:s.size≤1
    ·exact .inl (by omega)
    ·have hp:0<s.size:=by omega
     refine .inr ⟨by omega,by omega,hp,?_⟩
     rw [beq_eq_false_iff_ne]
     intro h
     refine hz ⟨by omega,?_⟩
     rw [List.head?_eq_getElem?,List.getElem?_eq_getElem (by omega)]
     have h2:s[0]'hp=48:=UInt8.toNat_inj.1 (show(s[0]'hp).toNat=48 by omega)
     exact congrArg some h2
   rw [Cn.numO_pu (by omega) hz]
   have HP:=fun w hg=>cpu_any s w hg (by omega)
   cases hpu:Cn.puC s.data.toList with
   | some u =>
    have hu:=(Cn.pu_ok (by omega) hpu).2
    refine cnum_goes s w hg hgo u true (by omega) (by omega) (hid (.inl ⟨rfl,fun w hg=>(HP w hg).mono fun e w' ⟨h,hw⟩=>⟨?_,hw⟩⟩))
    rcases h with⟨u',h1,_,h2⟩|⟨h1,_⟩
    ·rw [hpu,Option.some.injEq]at h1;rw [h2,h1]
    ·rw [hpu]at h1;cases h1
   | none =>
    refine cnum_goes s w hg hgo 0 false (by omega) (by omega) (hid (.inr ⟨rfl,fun w hg=>(HP w hg).mono fun e w' ⟨h,hw⟩=>⟨?_,hw⟩⟩))
    rcases h with⟨u',h1,_⟩|⟨_,h2⟩
    ·rw [hpu]at h1;cases h1
    ·exact h2
end Go.Proofs.YthkegfdijohpaaaGreatDoor
