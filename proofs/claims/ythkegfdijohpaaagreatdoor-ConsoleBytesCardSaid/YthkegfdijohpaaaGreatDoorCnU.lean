/- The walks of console's Answer at a fault and at a file written,and of three lines by Run. Conditions: the library's variables are as they were laid. -/
import Derived.Test.YthkegfdijohpaaaGreatDoorCnT
import Derived.Deep.RegionWith
namespace Go.Proofs.YthkegfdijohpaaaGreatDoor
set_option linter.all false
open Go.Lib (hid)
set_option maxRecDepth 1000000
set_option maxHeartbeats 16000000
open Go.RowKit
theorem answer_err(o c:Int)(F:ByteArray)(w:World)(hg:Gc w)(hc:(c == 0)=false)(HF:Hid (∀ u,Gc u→Calls Tryz.prog 26 #[.agg #[.int .i64 c,.int .i64 0]] u fun e w'=>e=.returned (.string F)∧∃ g,w'=more u g)) :
  Calls Tryz.prog 27 #[.int .i64 o,Cn.ans c] w fun e w'=>e=.returned (.string F)∧∃ g,w'=more w g:=by
 have HG:=hid hg
 clear hg
 unfold Cn.ans
 go_enter Tryz.func27,Tryz.ntmps27
 go_wp2_with (go_at_call 26;(with_reducible refine(HF.out _ (HG.out.below bT)).mono ?_);rintro e w2 ⟨rfl,g2,rfl⟩)
 go_ret
 exact⟨rfl,more_of_below bT⟩
theorem answer_ok(w:World):Calls Tryz.prog 27 #[.int .i64 1,Cn.ans 0] w fun e w'=>e=.returned (.string ⟨#[111,107]⟩)∧∃ g,w'=more w g:=by
 unfold Cn.ans
 go_enter Tryz.func27,Tryz.ntmps27
 go_wp2
 go_ret
 exact⟨rfl,more_of_below bT⟩
theorem err250:(⟨#[101,114,114,111,114,32]⟩:ByteArray)++⟨(Lib.itoa 250).toArray⟩++(⟨#[32,97,116,32]⟩:ByteArray)++⟨(Lib.itoa 0).toArray⟩=⟨#[101,114,114,111,114,32,50,53,48,32,97,116,32,48]⟩:=by kernel_rfl
theorem err60:(⟨#[101,114,114,111,114,32]⟩:ByteArray)++⟨(Lib.itoa 60).toArray⟩++(⟨#[32,97,116,32]⟩:ByteArray)++⟨(Lib.itoa 0).toArray⟩=⟨#[101,114,114,111,114,32,54,48,32,97,116,32,48]⟩:=by kernel_rfl
theorem parse_run5(w:World)(hg:Gc w):Calls Tryz.prog 8 #[.string ⟨#[114,117,110,32,53,32,45]⟩] w fun e w'=>e=.returned (.tuple #[.agg #[.int .i64 5,.string ⟨#[]⟩,.string ⟨#[]⟩,.int .i64 5,.int .i64 0,.int .i64 0],.int .i64 0])∧∃ g,w'=more w g:=by
 have h:=cParse_any ⟨#[114,117,110,32,53,32,45]⟩ w hg (by decide)
 rw [show Cn.parseO (⟨#[114,117,110,32,53,32,45]⟩:ByteArray).data.toList=(⟨5,[],[],5,0,0⟩,0)by kernel_rfl]at h
 exact h
theorem parse_writeA(w:World)(hg:Gc w):Calls Tryz.prog 8 #[.string ⟨#[119,114,105,116,101,32,65,46,77,111,100,32,48,48]⟩] w fun e w'=>e=.returned (.tuple #[.agg #[.int .i64 1,.string ⟨#[65,46,77,111,100]⟩,.string ⟨#[0]⟩,.int .i64 0,.int .i64 0,.int .i64 0],.int .i64 0])∧∃ g,w'=more w g:=by
 have h:=cParse_any ⟨#[119,114,105,116,101,32,65,46,77,111,100,32,48,48]⟩ w hg (by decide)
 rw [show Cn.parseO (⟨#[119,114,105,116,101,32,65,46,77,111,100,32,48,48]⟩:ByteArray).data.toList=(⟨1,[65,46,77,111,100],[0],0,0,0⟩,0)by kernel_rfl]at h
 exact h
theorem parse_what(w:World)(hg:Gc w):Calls Tryz.prog 8 #[.string ⟨#[119,104,97,116]⟩] w fun e w'=>e=.returned (.tuple #[.agg #[.int .i64 0,.string ⟨#[]⟩,.string ⟨#[]⟩,.int .i64 0,.int .i64 0,.int .i64 0],.int .i64 60])∧∃ g,w'=more w g:=by
 have h:=cParse_any ⟨#[119,104,97,116]⟩ w hg (by decide)
 rw [show Cn.parseO (⟨#[119,104,97,116]⟩:ByteArray).data.toList=(Cn.zero,60)by kernel_rfl]at h
 exact h
theorem parse_load(w:World)(hg:Gc w):Calls Tryz.prog 8 #[.string ⟨#[108,111,97,100,32,65,32,51,48,48,32,54,52]⟩] w fun e w'=>e=.returned (.tuple #[.agg #[.int .i64 4,.string ⟨#[65]⟩,.string ⟨#[]⟩,.int .i64 0,.int .i64 300,.int .i64 64],.int .i64 0])∧∃ g,w'=more w g:=by
 have h:=cParse_any ⟨#[108,111,97,100,32,65,32,51,48,48,32,54,52]⟩ w hg (by decide)
 rw [show Cn.parseO (⟨#[108,111,97,100,32,65,32,51,48,48,32,54,52]⟩:ByteArray).data.toList=(⟨4,[65],[],0,300,64⟩,0)by kernel_rfl]at h
 exact h
end Go.Proofs.YthkegfdijohpaaaGreatDoor
