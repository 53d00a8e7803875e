/- The walk of spinetkeep.Texts at lists that are alike;faults' lines. Conditions: the lists read as the same texts;the library's variables are as they were laid. -/
import Derived.Test.YthkegfdijohpaaaGreatDoorCnL
namespace Go.Proofs.YthkegfdijohpaaaGreatDoor
set_option linter.all false
open Go.Lib (hid)
set_option maxRecDepth 1000000
set_option maxHeartbeats 16000000
open Go.RowKit
namespace Cn
def tcells(l:List ByteArray):List Value:=l.map Value.string
theorem tcells_at(l:List ByteArray)(k:Nat)(h:k<l.length):(tcells l)[k]?=some (.string l[k]):=by simp [tcells,h]
end Cn
theorem keepTexts_eq(xs:List ByteArray)(n b off c b2 off2 d:Nat)(w:World)(hx:xs.length=n)(hn:(n:Int)≤1000000000)(hc:(n:Int)≤(c:Int))(hd:(n:Int)≤(d:Int))(hb:b<w.heap.size)(hb2:b2<w.heap.size)
  (HX:Hid (∀ k (h:k<xs.length),w.cell? ⟨b,off+k,none⟩=some (.string xs[k]))) (HY:Hid (∀ k (h:k<xs.length),w.cell? ⟨b2,off2+k,none⟩=some (.string xs[k]))) :
  Calls Tryz.prog 14 #[.slice (some ⟨b,off,none⟩) n c,.slice (some ⟨b2,off2,none⟩) n d] w fun e w'=>e=.returned (.bool true)∧∃ g,w'=more w g:=by
 have HNX:=hid hx
 clear hx
 go_enter Tryz.func14,Tryz.ntmps14
 go_wp2
 go_loopw [5] (fun i wr=>∃ k:Nat,k≤n∧i=.int .i64 k∧∃ g,wr=more w g) (fun i _=>n - (intOf i).toNat)
 case atStart=>exact⟨0,by omega,rfl,more_refl _⟩
 case round =>
  obtain⟨k,hk,rfl,g,rfl⟩:=hrel
  by_cases hlt:k<n
  ·have h1:k<xs.length:=by rw [HNX.out];exact hlt
   have c1:=HX.out k h1
   have c2:=HY.out k h1
   have hk0:(0:Int)≤(k:Int):=by omega
   have hk1:(k:Int)<(n:Int):=by omega
   generalize xs[k]=x at *
   go_wp2
   go_quiet (fail)
   go_wp2
   go_roundw
   case rel=>exact⟨k+1,by omega,by go_num,more_of_below bT⟩
   case measure=>simp [intOf];omega
  ·have hkn:k=n:=by omega
   subst hkn
   go_wp2
   go_ret
   exact⟨rfl,more_of_below bT⟩
theorem keepTexts_same(xs:List ByteArray)(v u:Value)(w:World)(h0:0<xs.length)(hn:xs.length≤1000000000)(hv:Reads w v xs.length 1 (Cn.tcells xs))(hu:Reads w u xs.length 1 (Cn.tcells xs)) :
  Calls Tryz.prog 14 #[v,u] w fun e w'=>e=.returned (.bool true)∧∃ g,w'=more w g:=by
 rcases hv.2 with⟨h1,_⟩|⟨b,off,c,rfl,hc,_,hb,hcell⟩
 ·omega
 ·rcases hu.2 with⟨h1,_⟩|⟨b2,off2,d,rfl,hd,_,hb2,hcell2⟩
  ·omega
  ·exact keepTexts_eq xs xs.length b off c b2 off2 d w rfl (by omega) (by omega) (by omega) hb hb2 (hid fun k h=>hcell k _ (Cn.tcells_at xs k h)) (hid fun k h=>hcell2 k _ (Cn.tcells_at xs k h))
theorem failed_any(c p:Int)(C D:ByteArray)(w:World)(hg:Gc w)(hC:(C.size:Int)≤20)(hD:(D.size:Int)≤20)
  (HC:Hid (∀ w,Gc w→Calls Tryz.prog 22 #[.int .i64 c] w fun e w'=>e=.returned (.string C)∧∃ g,w'=more w g)) (HD:Hid (∀ w,Gc w→Calls Tryz.prog 22 #[.int .i64 p] w fun e w'=>e=.returned (.string D)∧∃ g,w'=more w g)) :
  Calls Tryz.prog 26 #[.agg #[.int .i64 c,.int .i64 p]] w fun e w'=>e=.returned (.string ((⟨#[101,114,114,111,114,32]⟩:ByteArray)++C++(⟨#[32,97,116,32]⟩:ByteArray)++D))∧∃ g,w'=more w g:=by
 have HG:=hid hg
 clear hg
 go_enter Tryz.func26,Tryz.ntmps26
 go_wp2
 refine wp_region_more (by kernel_rfl) (by kernel_rfl) ?_
 repeat(first|go_big_quiet_skip|(go_big_quiet_want;go_big_quiet_op;first|go_big_quiet_on|(apply Exists.intro;refine⟨fun _=>?_,?_⟩;(focus(first|(go_at_call 22;first|exact mo_in (HC.out _ (HG.out.below bT))|exact mo_in (HD.out _ (HG.out.below bT)))));go_big_quiet_on)))
 refine wpQuiet_nil ?_
 intro _ hw'
 obtain⟨gq,rfl⟩:=hw'
 go_wp2
 go_ret
 exact⟨rfl,more_of_below bT⟩
theorem failed_at(c:Int)(h0:0≤c)(h1:c<1000)(w:World)(hg:Gc w):Calls Tryz.prog 26 #[.agg #[.int .i64 c,.int .i64 0]] w fun e w'=>e=.returned (.string ((⟨#[101,114,114,111,114,32]⟩:ByteArray)++⟨(Lib.itoa c).toArray⟩++(⟨#[32,97,116,32]⟩:ByteArray)++⟨(Lib.itoa 0).toArray⟩))∧∃ g,w'=more w g:=by
 have hs:∀ c:Int,0≤c→c<1000→(((⟨(Lib.itoa c).toArray⟩:ByteArray).size:Nat):Int)≤20:=fun c h0 h1=>by
  have h2:=Tk.decN_len c.toNat 2 (by omega)
  have:(⟨(Lib.itoa c).toArray⟩:ByteArray).size=(Lib.itoa c).length:=by show(Lib.itoa c).toArray.size=_;simp
  rw [this,As.itoa_pos h0];omega
 exact failed_any c 0 _ _ w hg (hs c h0 h1) (hs 0 (by omega) (by omega)) (hid fun w hg=>citoa_any c (by omega) (by omega) w hg) (hid fun w hg=>citoa_any 0 (by omega) (by omega) w hg)
end Go.Proofs.YthkegfdijohpaaaGreatDoor
