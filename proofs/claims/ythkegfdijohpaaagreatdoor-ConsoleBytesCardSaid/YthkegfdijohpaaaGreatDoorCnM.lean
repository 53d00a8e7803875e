/- The walk of the document's Parse: the command of a line. Conditions: the line's size is bounded. -/
import Derived.Test.YthkegfdijohpaaaGreatDoorCnK
import Derived.Test.YthkegfdijohpaaaGreatDoorCnB
import Derived.Test.YthkegfdijohpaaaGreatDoorCnL
namespace Go.Proofs.YthkegfdijohpaaaGreatDoor
set_option linter.all false
open Go.Lib (hid)
set_option maxRecDepth 1000000
set_option maxHeartbeats 16000000
open Go.RowKit
theorem rp_write_len(s:ByteArray)(w:World)(n:Nat)(h1:(0:Int)<(n:Int))(h1n:0<n)(hne:((n:Int) == 3)=false)(HC:Hid (∀ w,Calls Tryz.prog 17 #[.string s] w fun e w'=>(∃ b off cap,e=.returned (.slice (some ⟨b,off,none⟩) n cap)∧((n:Int)≤(cap:Int)∧(cap:Int)≤9223372036854775807)∧b<w'.heap.size∧w'.cell? ⟨b,off,none⟩=some (.string ⟨#[119,114,105,116,101]⟩))∧∃ g,w'=more w g)) :
  Calls Tryz.prog 9 #[.string s] w fun e w'=>e=.returned (.tuple #[.agg #[.int .i64 0,.string ⟨#[]⟩,.string ⟨#[]⟩,.int .i64 0,.int .i64 0,.int .i64 0],.int .i64 60])∧∃ g,w'=more w g:=by
 go_enter Tryz.func9,Tryz.ntmps9
 go_wp2_with (first|(go_at_call 17;(with_reducible refine(HC.out _).mono ?_);rintro e w2 ⟨⟨b,off,cap,rfl,⟨hc1,hc2⟩,hbl,c0⟩,g2,rfl⟩;have hbl2:=hbl;simp [more_size]at hbl2)|(go_at_call 18;(with_reducible refine(HB.out _).mono ?_);rintro e w3 ⟨rfl,g3,rfl⟩)|(go_at_call 20;(with_reducible refine(HN.out _).mono ?_);rintro e w4 ⟨rfl,g4,rfl⟩)|(go_at_call 19;first|((with_reducible refine(HX.out _).mono ?_);rintro e w5 ⟨rfl,hw5⟩;have hw6:=hw5.symm;subst hw6)|((with_reducible refine(HY.out _).mono ?_);rintro e w5 ⟨rfl,hw5⟩;have hw6:=hw5.symm;subst hw6)))
 refine bodyPost_ret (v:=.tuple #[.agg #[.int .i64 0,.string ⟨#[]⟩,.string ⟨#[]⟩,.int .i64 0,.int .i64 0,.int .i64 0],.int .i64 60]) (by simp [results,Tryz.results9,go_sem];try rfl) rfl ⟨rfl,more_of_below bT⟩
theorem rp_delete_len(s:ByteArray)(w:World)(n:Nat)(h1:(0:Int)<(n:Int))(h1n:0<n)(hne:((n:Int) == 2)=false)(HC:Hid (∀ w,Calls Tryz.prog 17 #[.string s] w fun e w'=>(∃ b off cap,e=.returned (.slice (some ⟨b,off,none⟩) n cap)∧((n:Int)≤(cap:Int)∧(cap:Int)≤9223372036854775807)∧b<w'.heap.size∧w'.cell? ⟨b,off,none⟩=some (.string ⟨#[100,101,108,101,116,101]⟩))∧∃ g,w'=more w g)) :
  Calls Tryz.prog 9 #[.string s] w fun e w'=>e=.returned (.tuple #[.agg #[.int .i64 0,.string ⟨#[]⟩,.string ⟨#[]⟩,.int .i64 0,.int .i64 0,.int .i64 0],.int .i64 60])∧∃ g,w'=more w g:=by
 go_enter Tryz.func9,Tryz.ntmps9
 go_wp2_with (first|(go_at_call 17;(with_reducible refine(HC.out _).mono ?_);rintro e w2 ⟨⟨b,off,cap,rfl,⟨hc1,hc2⟩,hbl,c0⟩,g2,rfl⟩;have hbl2:=hbl;simp [more_size]at hbl2)|(go_at_call 18;(with_reducible refine(HB.out _).mono ?_);rintro e w3 ⟨rfl,g3,rfl⟩)|(go_at_call 20;(with_reducible refine(HN.out _).mono ?_);rintro e w4 ⟨rfl,g4,rfl⟩)|(go_at_call 19;first|((with_reducible refine(HX.out _).mono ?_);rintro e w5 ⟨rfl,hw5⟩;have hw6:=hw5.symm;subst hw6)|((with_reducible refine(HY.out _).mono ?_);rintro e w5 ⟨rfl,hw5⟩;have hw6:=hw5.symm;subst hw6)))
 refine bodyPost_ret (v:=.tuple #[.agg #[.int .i64 0,.string ⟨#[]⟩,.string ⟨#[]⟩,.int .i64 0,.int .i64 0,.int .i64 0],.int .i64 60]) (by simp [results,Tryz.results9,go_sem];try rfl) rfl ⟨rfl,more_of_below bT⟩
theorem rp_compile_len(s:ByteArray)(w:World)(n:Nat)(h1:(0:Int)<(n:Int))(h1n:0<n)(hne:((n:Int) == 2)=false)(HC:Hid (∀ w,Calls Tryz.prog 17 #[.string s] w fun e w'=>(∃ b off cap,e=.returned (.slice (some ⟨b,off,none⟩) n cap)∧((n:Int)≤(cap:Int)∧(cap:Int)≤9223372036854775807)∧b<w'.heap.size∧w'.cell? ⟨b,off,none⟩=some (.string ⟨#[99,111,109,112,105,108,101]⟩))∧∃ g,w'=more w g)) :
  Calls Tryz.prog 9 #[.string s] w fun e w'=>e=.returned (.tuple #[.agg #[.int .i64 0,.string ⟨#[]⟩,.string ⟨#[]⟩,.int .i64 0,.int .i64 0,.int .i64 0],.int .i64 60])∧∃ g,w'=more w g:=by
 go_enter Tryz.func9,Tryz.ntmps9
 go_wp2_with (first|(go_at_call 17;(with_reducible refine(HC.out _).mono ?_);rintro e w2 ⟨⟨b,off,cap,rfl,⟨hc1,hc2⟩,hbl,c0⟩,g2,rfl⟩;have hbl2:=hbl;simp [more_size]at hbl2)|(go_at_call 18;(with_reducible refine(HB.out _).mono ?_);rintro e w3 ⟨rfl,g3,rfl⟩)|(go_at_call 20;(with_reducible refine(HN.out _).mono ?_);rintro e w4 ⟨rfl,g4,rfl⟩)|(go_at_call 19;first|((with_reducible refine(HX.out _).mono ?_);rintro e w5 ⟨rfl,hw5⟩;have hw6:=hw5.symm;subst hw6)|((with_reducible refine(HY.out _).mono ?_);rintro e w5 ⟨rfl,hw5⟩;have hw6:=hw5.symm;subst hw6)))
 refine bodyPost_ret (v:=.tuple #[.agg #[.int .i64 0,.string ⟨#[]⟩,.string ⟨#[]⟩,.int .i64 0,.int .i64 0,.int .i64 0],.int .i64 60]) (by simp [results,Tryz.results9,go_sem];try rfl) rfl ⟨rfl,more_of_below bT⟩
theorem rp_load_len(s:ByteArray)(w:World)(n:Nat)(h1:(0:Int)<(n:Int))(h1n:0<n)(hne:((n:Int) == 4)=false)(HC:Hid (∀ w,Calls Tryz.prog 17 #[.string s] w fun e w'=>(∃ b off cap,e=.returned (.slice (some ⟨b,off,none⟩) n cap)∧((n:Int)≤(cap:Int)∧(cap:Int)≤9223372036854775807)∧b<w'.heap.size∧w'.cell? ⟨b,off,none⟩=some (.string ⟨#[108,111,97,100]⟩))∧∃ g,w'=more w g)) :
  Calls Tryz.prog 9 #[.string s] w fun e w'=>e=.returned (.tuple #[.agg #[.int .i64 0,.string ⟨#[]⟩,.string ⟨#[]⟩,.int .i64 0,.int .i64 0,.int .i64 0],.int .i64 60])∧∃ g,w'=more w g:=by
 go_enter Tryz.func9,Tryz.ntmps9
 go_wp2_with (first|(go_at_call 17;(with_reducible refine(HC.out _).mono ?_);rintro e w2 ⟨⟨b,off,cap,rfl,⟨hc1,hc2⟩,hbl,c0⟩,g2,rfl⟩;have hbl2:=hbl;simp [more_size]at hbl2)|(go_at_call 18;(with_reducible refine(HB.out _).mono ?_);rintro e w3 ⟨rfl,g3,rfl⟩)|(go_at_call 20;(with_reducible refine(HN.out _).mono ?_);rintro e w4 ⟨rfl,g4,rfl⟩)|(go_at_call 19;first|((with_reducible refine(HX.out _).mono ?_);rintro e w5 ⟨rfl,hw5⟩;have hw6:=hw5.symm;subst hw6)|((with_reducible refine(HY.out _).mono ?_);rintro e w5 ⟨rfl,hw5⟩;have hw6:=hw5.symm;subst hw6)))
 refine bodyPost_ret (v:=.tuple #[.agg #[.int .i64 0,.string ⟨#[]⟩,.string ⟨#[]⟩,.int .i64 0,.int .i64 0,.int .i64 0],.int .i64 60]) (by simp [results,Tryz.results9,go_sem];try rfl) rfl ⟨rfl,more_of_below bT⟩
theorem rp_run_len(s:ByteArray)(w:World)(n:Nat)(h1:(0:Int)<(n:Int))(h1n:0<n)(hne:((n:Int) == 3)=false)(HC:Hid (∀ w,Calls Tryz.prog 17 #[.string s] w fun e w'=>(∃ b off cap,e=.returned (.slice (some ⟨b,off,none⟩) n cap)∧((n:Int)≤(cap:Int)∧(cap:Int)≤9223372036854775807)∧b<w'.heap.size∧w'.cell? ⟨b,off,none⟩=some (.string ⟨#[114,117,110]⟩))∧∃ g,w'=more w g)) :
  Calls Tryz.prog 9 #[.string s] w fun e w'=>e=.returned (.tuple #[.agg #[.int .i64 0,.string ⟨#[]⟩,.string ⟨#[]⟩,.int .i64 0,.int .i64 0,.int .i64 0],.int .i64 60])∧∃ g,w'=more w g:=by
 go_enter Tryz.func9,Tryz.ntmps9
 go_wp2_with (first|(go_at_call 17;(with_reducible refine(HC.out _).mono ?_);rintro e w2 ⟨⟨b,off,cap,rfl,⟨hc1,hc2⟩,hbl,c0⟩,g2,rfl⟩;have hbl2:=hbl;simp [more_size]at hbl2)|(go_at_call 18;(with_reducible refine(HB.out _).mono ?_);rintro e w3 ⟨rfl,g3,rfl⟩)|(go_at_call 20;(with_reducible refine(HN.out _).mono ?_);rintro e w4 ⟨rfl,g4,rfl⟩)|(go_at_call 19;first|((with_reducible refine(HX.out _).mono ?_);rintro e w5 ⟨rfl,hw5⟩;have hw6:=hw5.symm;subst hw6)|((with_reducible refine(HY.out _).mono ?_);rintro e w5 ⟨rfl,hw5⟩;have hw6:=hw5.symm;subst hw6)))
 refine bodyPost_ret (v:=.tuple #[.agg #[.int .i64 0,.string ⟨#[]⟩,.string ⟨#[]⟩,.int .i64 0,.int .i64 0,.int .i64 0],.int .i64 60]) (by simp [results,Tryz.results9,go_sem];try rfl) rfl ⟨rfl,more_of_below bT⟩
theorem rp_other(s:ByteArray)(w:World)(S0:ByteArray)(n:Nat)(h1:(0:Int)<(n:Int))(h1n:0<n)(xWrite:(S0.toList == [119,114,105,116,101])=false)(xDelete:(S0.toList == [100,101,108,101,116,101])=false)(xCompile:(S0.toList == [99,111,109,112,105,108,101])=false)(xLoad:(S0.toList == [108,111,97,100])=false)(xRun:(S0.toList == [114,117,110])=false)(HC:Hid (∀ w,Calls Tryz.prog 17 #[.string s] w fun e w'=>(∃ b off cap,e=.returned (.slice (some ⟨b,off,none⟩) n cap)∧((n:Int)≤(cap:Int)∧(cap:Int)≤9223372036854775807)∧b<w'.heap.size∧w'.cell? ⟨b,off,none⟩=some (.string S0))∧∃ g,w'=more w g)) :
  Calls Tryz.prog 9 #[.string s] w fun e w'=>e=.returned (.tuple #[.agg #[.int .i64 0,.string ⟨#[]⟩,.string ⟨#[]⟩,.int .i64 0,.int .i64 0,.int .i64 0],.int .i64 60])∧∃ g,w'=more w g:=by
 go_enter Tryz.func9,Tryz.ntmps9
 go_wp2_with (first|(go_at_call 17;(with_reducible refine(HC.out _).mono ?_);rintro e w2 ⟨⟨b,off,cap,rfl,⟨hc1,hc2⟩,hbl,c0⟩,g2,rfl⟩;have hbl2:=hbl;simp [more_size]at hbl2)|(go_at_call 18;(with_reducible refine(HB.out _).mono ?_);rintro e w3 ⟨rfl,g3,rfl⟩)|(go_at_call 20;(with_reducible refine(HN.out _).mono ?_);rintro e w4 ⟨rfl,g4,rfl⟩)|(go_at_call 19;first|((with_reducible refine(HX.out _).mono ?_);rintro e w5 ⟨rfl,hw5⟩;have hw6:=hw5.symm;subst hw6)|((with_reducible refine(HY.out _).mono ?_);rintro e w5 ⟨rfl,hw5⟩;have hw6:=hw5.symm;subst hw6)))
 refine bodyPost_ret (v:=.tuple #[.agg #[.int .i64 0,.string ⟨#[]⟩,.string ⟨#[]⟩,.int .i64 0,.int .i64 0,.int .i64 0],.int .i64 60]) (by simp [results,Tryz.results9,go_sem];try rfl) rfl ⟨rfl,more_of_below bT⟩
theorem rp_write_no(s:ByteArray)(w:World)(S1 S2 B:ByteArray)(HC:Hid (∀ w,Calls Tryz.prog 17 #[.string s] w fun e w'=>(∃ b off cap,e=.returned (.slice (some ⟨b,off,none⟩) 3 cap)∧((3:Int)≤(cap:Int)∧(cap:Int)≤9223372036854775807)∧b<w'.heap.size∧w'.cell? ⟨b,off,none⟩=some (.string ⟨#[119,114,105,116,101]⟩)∧w'.cell? ⟨b,off+1,none⟩=some (.string S1)∧w'.cell? ⟨b,off+2,none⟩=some (.string S2))∧∃ g,w'=more w g))(HB:Hid (∀ w,Calls Tryz.prog 18 #[.string S2] w fun e w'=>e=.returned (.tuple #[.string B,.bool false])∧∃ g,w'=more w g)) :
  Calls Tryz.prog 9 #[.string s] w fun e w'=>e=.returned (.tuple #[.agg #[.int .i64 0,.string ⟨#[]⟩,.string ⟨#[]⟩,.int .i64 0,.int .i64 0,.int .i64 0],.int .i64 60])∧∃ g,w'=more w g:=by
 go_enter Tryz.func9,Tryz.ntmps9
 go_wp2_with (first|(go_at_call 17;(with_reducible refine(HC.out _).mono ?_);rintro e w2 ⟨⟨b,off,cap,rfl,⟨hc1,hc2⟩,hbl,c0,c1,c2⟩,g2,rfl⟩;have hbl2:=hbl;simp [more_size]at hbl2)|(go_at_call 18;(with_reducible refine(HB.out _).mono ?_);rintro e w3 ⟨rfl,g3,rfl⟩)|(go_at_call 20;(with_reducible refine(HN.out _).mono ?_);rintro e w4 ⟨rfl,g4,rfl⟩)|(go_at_call 19;first|((with_reducible refine(HX.out _).mono ?_);rintro e w5 ⟨rfl,hw5⟩;have hw6:=hw5.symm;subst hw6)|((with_reducible refine(HY.out _).mono ?_);rintro e w5 ⟨rfl,hw5⟩;have hw6:=hw5.symm;subst hw6)))
 go_region
 go_wp2_with (first|(go_at_call 17;(with_reducible refine(HC.out _).mono ?_);rintro e w2 ⟨⟨b,off,cap,rfl,⟨hc1,hc2⟩,hbl,c0,c1,c2⟩,g2,rfl⟩;have hbl2:=hbl;simp [more_size]at hbl2)|(go_at_call 18;(with_reducible refine(HB.out _).mono ?_);rintro e w3 ⟨rfl,g3,rfl⟩)|(go_at_call 20;(with_reducible refine(HN.out _).mono ?_);rintro e w4 ⟨rfl,g4,rfl⟩)|(go_at_call 19;first|((with_reducible refine(HX.out _).mono ?_);rintro e w5 ⟨rfl,hw5⟩;have hw6:=hw5.symm;subst hw6)|((with_reducible refine(HY.out _).mono ?_);rintro e w5 ⟨rfl,hw5⟩;have hw6:=hw5.symm;subst hw6)))
 refine bodyPost_ret (v:=.tuple #[.agg #[.int .i64 0,.string ⟨#[]⟩,.string ⟨#[]⟩,.int .i64 0,.int .i64 0,.int .i64 0],.int .i64 60]) (by simp [results,Tryz.results9,go_sem];try rfl) rfl ⟨rfl,more_of_below bT⟩
theorem rp_write_bad(s:ByteArray)(w:World)(S1 S2 B:ByteArray)(HC:Hid (∀ w,Calls Tryz.prog 17 #[.string s] w fun e w'=>(∃ b off cap,e=.returned (.slice (some ⟨b,off,none⟩) 3 cap)∧((3:Int)≤(cap:Int)∧(cap:Int)≤9223372036854775807)∧b<w'.heap.size∧w'.cell? ⟨b,off,none⟩=some (.string ⟨#[119,114,105,116,101]⟩)∧w'.cell? ⟨b,off+1,none⟩=some (.string S1)∧w'.cell? ⟨b,off+2,none⟩=some (.string S2))∧∃ g,w'=more w g))(HB:Hid (∀ w,Calls Tryz.prog 18 #[.string S2] w fun e w'=>e=.returned (.tuple #[.string B,.bool true])∧∃ g,w'=more w g))(HN:Hid (∀ w,Calls Tryz.prog 20 #[.string S1] w fun e w'=>e=.returned (.bool false)∧∃ g,w'=more w g)) :
  Calls Tryz.prog 9 #[.string s] w fun e w'=>e=.returned (.tuple #[.agg #[.int .i64 0,.string ⟨#[]⟩,.string ⟨#[]⟩,.int .i64 0,.int .i64 0,.int .i64 0],.int .i64 60])∧∃ g,w'=more w g:=by
 go_enter Tryz.func9,Tryz.ntmps9
 go_wp2_with (first|(go_at_call 17;(with_reducible refine(HC.out _).mono ?_);rintro e w2 ⟨⟨b,off,cap,rfl,⟨hc1,hc2⟩,hbl,c0,c1,c2⟩,g2,rfl⟩;have hbl2:=hbl;simp [more_size]at hbl2)|(go_at_call 18;(with_reducible refine(HB.out _).mono ?_);rintro e w3 ⟨rfl,g3,rfl⟩)|(go_at_call 20;(with_reducible refine(HN.out _).mono ?_);rintro e w4 ⟨rfl,g4,rfl⟩)|(go_at_call 19;first|((with_reducible refine(HX.out _).mono ?_);rintro e w5 ⟨rfl,hw5⟩;have hw6:=hw5.symm;subst hw6)|((with_reducible refine(HY.out _).mono ?_);rintro e w5 ⟨rfl,hw5⟩;have hw6:=hw5.symm;subst hw6)))
 go_region
 go_wp2_with (first|(go_at_call 17;(with_reducible refine(HC.out _).mono ?_);rintro e w2 ⟨⟨b,off,cap,rfl,⟨hc1,hc2⟩,hbl,c0,c1,c2⟩,g2,rfl⟩;have hbl2:=hbl;simp [more_size]at hbl2)|(go_at_call 18;(with_reducible refine(HB.out _).mono ?_);rintro e w3 ⟨rfl,g3,rfl⟩)|(go_at_call 20;(with_reducible refine(HN.out _).mono ?_);rintro e w4 ⟨rfl,g4,rfl⟩)|(go_at_call 19;first|((with_reducible refine(HX.out _).mono ?_);rintro e w5 ⟨rfl,hw5⟩;have hw6:=hw5.symm;subst hw6)|((with_reducible refine(HY.out _).mono ?_);rintro e w5 ⟨rfl,hw5⟩;have hw6:=hw5.symm;subst hw6)))
 refine bodyPost_ret (v:=.tuple #[.agg #[.int .i64 0,.string ⟨#[]⟩,.string ⟨#[]⟩,.int .i64 0,.int .i64 0,.int .i64 0],.int .i64 60]) (by simp [results,Tryz.results9,go_sem];try rfl) rfl ⟨rfl,more_of_below bT⟩
theorem rp_write_yes(s:ByteArray)(w:World)(S1 S2 B:ByteArray)(HC:Hid (∀ w,Calls Tryz.prog 17 #[.string s] w fun e w'=>(∃ b off cap,e=.returned (.slice (some ⟨b,off,none⟩) 3 cap)∧((3:Int)≤(cap:Int)∧(cap:Int)≤9223372036854775807)∧b<w'.heap.size∧w'.cell? ⟨b,off,none⟩=some (.string ⟨#[119,114,105,116,101]⟩)∧w'.cell? ⟨b,off+1,none⟩=some (.string S1)∧w'.cell? ⟨b,off+2,none⟩=some (.string S2))∧∃ g,w'=more w g))(HB:Hid (∀ w,Calls Tryz.prog 18 #[.string S2] w fun e w'=>e=.returned (.tuple #[.string B,.bool true])∧∃ g,w'=more w g))(HN:Hid (∀ w,Calls Tryz.prog 20 #[.string S1] w fun e w'=>e=.returned (.bool true)∧∃ g,w'=more w g)) :
  Calls Tryz.prog 9 #[.string s] w fun e w'=>e=.returned (.tuple #[.agg #[.int .i64 1,.string S1,.string B,.int .i64 0,.int .i64 0,.int .i64 0],.int .i64 0])∧∃ g,w'=more w g:=by
 go_enter Tryz.func9,Tryz.ntmps9
 go_wp2_with (first|(go_at_call 17;(with_reducible refine(HC.out _).mono ?_);rintro e w2 ⟨⟨b,off,cap,rfl,⟨hc1,hc2⟩,hbl,c0,c1,c2⟩,g2,rfl⟩;have hbl2:=hbl;simp [more_size]at hbl2)|(go_at_call 18;(with_reducible refine(HB.out _).mono ?_);rintro e w3 ⟨rfl,g3,rfl⟩)|(go_at_call 20;(with_reducible refine(HN.out _).mono ?_);rintro e w4 ⟨rfl,g4,rfl⟩)|(go_at_call 19;first|((with_reducible refine(HX.out _).mono ?_);rintro e w5 ⟨rfl,hw5⟩;have hw6:=hw5.symm;subst hw6)|((with_reducible refine(HY.out _).mono ?_);rintro e w5 ⟨rfl,hw5⟩;have hw6:=hw5.symm;subst hw6)))
 go_region
 go_wp2_with (first|(go_at_call 17;(with_reducible refine(HC.out _).mono ?_);rintro e w2 ⟨⟨b,off,cap,rfl,⟨hc1,hc2⟩,hbl,c0,c1,c2⟩,g2,rfl⟩;have hbl2:=hbl;simp [more_size]at hbl2)|(go_at_call 18;(with_reducible refine(HB.out _).mono ?_);rintro e w3 ⟨rfl,g3,rfl⟩)|(go_at_call 20;(with_reducible refine(HN.out _).mono ?_);rintro e w4 ⟨rfl,g4,rfl⟩)|(go_at_call 19;first|((with_reducible refine(HX.out _).mono ?_);rintro e w5 ⟨rfl,hw5⟩;have hw6:=hw5.symm;subst hw6)|((with_reducible refine(HY.out _).mono ?_);rintro e w5 ⟨rfl,hw5⟩;have hw6:=hw5.symm;subst hw6)))
 refine bodyPost_ret (v:=.tuple #[.agg #[.int .i64 1,.string S1,.string B,.int .i64 0,.int .i64 0,.int .i64 0],.int .i64 0]) (by simp [results,Tryz.results9,go_sem];try rfl) rfl ⟨rfl,more_of_below bT⟩
theorem rp_delete_bad(s:ByteArray)(w:World)(S1:ByteArray)(HC:Hid (∀ w,Calls Tryz.prog 17 #[.string s] w fun e w'=>(∃ b off cap,e=.returned (.slice (some ⟨b,off,none⟩) 2 cap)∧((2:Int)≤(cap:Int)∧(cap:Int)≤9223372036854775807)∧b<w'.heap.size∧w'.cell? ⟨b,off,none⟩=some (.string ⟨#[100,101,108,101,116,101]⟩)∧w'.cell? ⟨b,off+1,none⟩=some (.string S1))∧∃ g,w'=more w g))(HN:Hid (∀ w,Calls Tryz.prog 20 #[.string S1] w fun e w'=>e=.returned (.bool false)∧∃ g,w'=more w g)) :
  Calls Tryz.prog 9 #[.string s] w fun e w'=>e=.returned (.tuple #[.agg #[.int .i64 0,.string ⟨#[]⟩,.string ⟨#[]⟩,.int .i64 0,.int .i64 0,.int .i64 0],.int .i64 60])∧∃ g,w'=more w g:=by
 go_enter Tryz.func9,Tryz.ntmps9
 go_wp2_with (first|(go_at_call 17;(with_reducible refine(HC.out _).mono ?_);rintro e w2 ⟨⟨b,off,cap,rfl,⟨hc1,hc2⟩,hbl,c0,c1⟩,g2,rfl⟩;have hbl2:=hbl;simp [more_size]at hbl2)|(go_at_call 18;(with_reducible refine(HB.out _).mono ?_);rintro e w3 ⟨rfl,g3,rfl⟩)|(go_at_call 20;(with_reducible refine(HN.out _).mono ?_);rintro e w4 ⟨rfl,g4,rfl⟩)|(go_at_call 19;first|((with_reducible refine(HX.out _).mono ?_);rintro e w5 ⟨rfl,hw5⟩;have hw6:=hw5.symm;subst hw6)|((with_reducible refine(HY.out _).mono ?_);rintro e w5 ⟨rfl,hw5⟩;have hw6:=hw5.symm;subst hw6)))
 go_region
 go_wp2_with (first|(go_at_call 17;(with_reducible refine(HC.out _).mono ?_);rintro e w2 ⟨⟨b,off,cap,rfl,⟨hc1,hc2⟩,hbl,c0,c1⟩,g2,rfl⟩;have hbl2:=hbl;simp [more_size]at hbl2)|(go_at_call 18;(with_reducible refine(HB.out _).mono ?_);rintro e w3 ⟨rfl,g3,rfl⟩)|(go_at_call 20;(with_reducible refine(HN.out _).mono ?_);rintro e w4 ⟨rfl,g4,rfl⟩)|(go_at_call 19;first|((with_reducible refine(HX.out _).mono ?_);rintro e w5 ⟨rfl,hw5⟩;have hw6:=hw5.symm;subst hw6)|((with_reducible refine(HY.out _).mono ?_);rintro e w5 ⟨rfl,hw5⟩;have hw6:=hw5.symm;subst hw6)))
 refine bodyPost_ret (v:=.tuple #[.agg #[.int .i64 0,.string ⟨#[]⟩,.string ⟨#[]⟩,.int .i64 0,.int .i64 0,.int .i64 0],.int .i64 60]) (by simp [results,Tryz.results9,go_sem];try rfl) rfl ⟨rfl,more_of_below bT⟩
theorem rp_delete_yes(s:ByteArray)(w:World)(S1:ByteArray)(HC:Hid (∀ w,Calls Tryz.prog 17 #[.string s] w fun e w'=>(∃ b off cap,e=.returned (.slice (some ⟨b,off,none⟩) 2 cap)∧((2:Int)≤(cap:Int)∧(cap:Int)≤9223372036854775807)∧b<w'.heap.size∧w'.cell? ⟨b,off,none⟩=some (.string ⟨#[100,101,108,101,116,101]⟩)∧w'.cell? ⟨b,off+1,none⟩=some (.string S1))∧∃ g,w'=more w g))(HN:Hid (∀ w,Calls Tryz.prog 20 #[.string S1] w fun e w'=>e=.returned (.bool true)∧∃ g,w'=more w g)) :
  Calls Tryz.prog 9 #[.string s] w fun e w'=>e=.returned (.tuple #[.agg #[.int .i64 2,.string S1,.string ⟨#[]⟩,.int .i64 0,.int .i64 0,.int .i64 0],.int .i64 0])∧∃ g,w'=more w g:=by
 go_enter Tryz.func9,Tryz.ntmps9
 go_wp2_with (first|(go_at_call 17;(with_reducible refine(HC.out _).mono ?_);rintro e w2 ⟨⟨b,off,cap,rfl,⟨hc1,hc2⟩,hbl,c0,c1⟩,g2,rfl⟩;have hbl2:=hbl;simp [more_size]at hbl2)|(go_at_call 18;(with_reducible refine(HB.out _).mono ?_);rintro e w3 ⟨rfl,g3,rfl⟩)|(go_at_call 20;(with_reducible refine(HN.out _).mono ?_);rintro e w4 ⟨rfl,g4,rfl⟩)|(go_at_call 19;first|((with_reducible refine(HX.out _).mono ?_);rintro e w5 ⟨rfl,hw5⟩;have hw6:=hw5.symm;subst hw6)|((with_reducible refine(HY.out _).mono ?_);rintro e w5 ⟨rfl,hw5⟩;have hw6:=hw5.symm;subst hw6)))
 go_region
 go_wp2_with (first|(go_at_call 17;(with_reducible refine(HC.out _).mono ?_);rintro e w2 ⟨⟨b,off,cap,rfl,⟨hc1,hc2⟩,hbl,c0,c1⟩,g2,rfl⟩;have hbl2:=hbl;simp [more_size]at hbl2)|(go_at_call 18;(with_reducible refine(HB.out _).mono ?_);rintro e w3 ⟨rfl,g3,rfl⟩)|(go_at_call 20;(with_reducible refine(HN.out _).mono ?_);rintro e w4 ⟨rfl,g4,rfl⟩)|(go_at_call 19;first|((with_reducible refine(HX.out _).mono ?_);rintro e w5 ⟨rfl,hw5⟩;have hw6:=hw5.symm;subst hw6)|((with_reducible refine(HY.out _).mono ?_);rintro e w5 ⟨rfl,hw5⟩;have hw6:=hw5.symm;subst hw6)))
 refine bodyPost_ret (v:=.tuple #[.agg #[.int .i64 2,.string S1,.string ⟨#[]⟩,.int .i64 0,.int .i64 0,.int .i64 0],.int .i64 0]) (by simp [results,Tryz.results9,go_sem];try rfl) rfl ⟨rfl,more_of_below bT⟩
theorem rp_compile_bad(s:ByteArray)(w:World)(S1:ByteArray)(HC:Hid (∀ w,Calls Tryz.prog 17 #[.string s] w fun e w'=>(∃ b off cap,e=.returned (.slice (some ⟨b,off,none⟩) 2 cap)∧((2:Int)≤(cap:Int)∧(cap:Int)≤9223372036854775807)∧b<w'.heap.size∧w'.cell? ⟨b,off,none⟩=some (.string ⟨#[99,111,109,112,105,108,101]⟩)∧w'.cell? ⟨b,off+1,none⟩=some (.string S1))∧∃ g,w'=more w g))(HN:Hid (∀ w,Calls Tryz.prog 20 #[.string S1] w fun e w'=>e=.returned (.bool false)∧∃ g,w'=more w g)) :
  Calls Tryz.prog 9 #[.string s] w fun e w'=>e=.returned (.tuple #[.agg #[.int .i64 0,.string ⟨#[]⟩,.string ⟨#[]⟩,.int .i64 0,.int .i64 0,.int .i64 0],.int .i64 60])∧∃ g,w'=more w g:=by
 go_enter Tryz.func9,Tryz.ntmps9
 go_wp2_with (first|(go_at_call 17;(with_reducible refine(HC.out _).mono ?_);rintro e w2 ⟨⟨b,off,cap,rfl,⟨hc1,hc2⟩,hbl,c0,c1⟩,g2,rfl⟩;have hbl2:=hbl;simp [more_size]at hbl2)|(go_at_call 18;(with_reducible refine(HB.out _).mono ?_);rintro e w3 ⟨rfl,g3,rfl⟩)|(go_at_call 20;(with_reducible refine(HN.out _).mono ?_);rintro e w4 ⟨rfl,g4,rfl⟩)|(go_at_call 19;first|((with_reducible refine(HX.out _).mono ?_);rintro e w5 ⟨rfl,hw5⟩;have hw6:=hw5.symm;subst hw6)|((with_reducible refine(HY.out _).mono ?_);rintro e w5 ⟨rfl,hw5⟩;have hw6:=hw5.symm;subst hw6)))
 go_region
 go_wp2_with (first|(go_at_call 17;(with_reducible refine(HC.out _).mono ?_);rintro e w2 ⟨⟨b,off,cap,rfl,⟨hc1,hc2⟩,hbl,c0,c1⟩,g2,rfl⟩;have hbl2:=hbl;simp [more_size]at hbl2)|(go_at_call 18;(with_reducible refine(HB.out _).mono ?_);rintro e w3 ⟨rfl,g3,rfl⟩)|(go_at_call 20;(with_reducible refine(HN.out _).mono ?_);rintro e w4 ⟨rfl,g4,rfl⟩)|(go_at_call 19;first|((with_reducible refine(HX.out _).mono ?_);rintro e w5 ⟨rfl,hw5⟩;have hw6:=hw5.symm;subst hw6)|((with_reducible refine(HY.out _).mono ?_);rintro e w5 ⟨rfl,hw5⟩;have hw6:=hw5.symm;subst hw6)))
 refine bodyPost_ret (v:=.tuple #[.agg #[.int .i64 0,.string ⟨#[]⟩,.string ⟨#[]⟩,.int .i64 0,.int .i64 0,.int .i64 0],.int .i64 60]) (by simp [results,Tryz.results9,go_sem];try rfl) rfl ⟨rfl,more_of_below bT⟩
theorem rp_compile_yes(s:ByteArray)(w:World)(S1:ByteArray)(HC:Hid (∀ w,Calls Tryz.prog 17 #[.string s] w fun e w'=>(∃ b off cap,e=.returned (.slice (some ⟨b,off,none⟩) 2 cap)∧((2:Int)≤(cap:Int)∧(cap:Int)≤9223372036854775807)∧b<w'.heap.size∧w'.cell? ⟨b,off,none⟩=some (.string ⟨#[99,111,109,112,105,108,101]⟩)∧w'.cell? ⟨b,off+1,none⟩=some (.string S1))∧∃ g,w'=more w g))(HN:Hid (∀ w,Calls Tryz.prog 20 #[.string S1] w fun e w'=>e=.returned (.bool true)∧∃ g,w'=more w g)) :
  Calls Tryz.prog 9 #[.string s] w fun e w'=>e=.returned (.tuple #[.agg #[.int .i64 3,.string S1,.string ⟨#[]⟩,.int .i64 0,.int .i64 0,.int .i64 0],.int .i64 0])∧∃ g,w'=more w g:=by
 go_enter Tryz.func9,Tryz.ntmps9
 go_wp2_with (first|(go_at_call 17;(with_reducible refine(HC.out _).mono ?_);rintro e w2 ⟨⟨b,off,cap,rfl,⟨hc1,hc2⟩,hbl,c0,c1⟩,g2,rfl⟩;have hbl2:=hbl;simp [more_size]at hbl2)|(go_at_call 18;(with_reducible refine(HB.out _).mono ?_);rintro e w3 ⟨rfl,g3,rfl⟩)|(go_at_call 20;(with_reducible refine(HN.out _).mono ?_);rintro e w4 ⟨rfl,g4,rfl⟩)|(go_at_call 19;first|((with_reducible refine(HX.out _).mono ?_);rintro e w5 ⟨rfl,hw5⟩;have hw6:=hw5.symm;subst hw6)|((with_reducible refine(HY.out _).mono ?_);rintro e w5 ⟨rfl,hw5⟩;have hw6:=hw5.symm;subst hw6)))
 go_region
 go_wp2_with (first|(go_at_call 17;(with_reducible refine(HC.out _).mono ?_);rintro e w2 ⟨⟨b,off,cap,rfl,⟨hc1,hc2⟩,hbl,c0,c1⟩,g2,rfl⟩;have hbl2:=hbl;simp [more_size]at hbl2)|(go_at_call 18;(with_reducible refine(HB.out _).mono ?_);rintro e w3 ⟨rfl,g3,rfl⟩)|(go_at_call 20;(with_reducible refine(HN.out _).mono ?_);rintro e w4 ⟨rfl,g4,rfl⟩)|(go_at_call 19;first|((with_reducible refine(HX.out _).mono ?_);rintro e w5 ⟨rfl,hw5⟩;have hw6:=hw5.symm;subst hw6)|((with_reducible refine(HY.out _).mono ?_);rintro e w5 ⟨rfl,hw5⟩;have hw6:=hw5.symm;subst hw6)))
 refine bodyPost_ret (v:=.tuple #[.agg #[.int .i64 3,.string S1,.string ⟨#[]⟩,.int .i64 0,.int .i64 0,.int .i64 0],.int .i64 0]) (by simp [results,Tryz.results9,go_sem];try rfl) rfl ⟨rfl,more_of_below bT⟩
theorem rp_load_a(s:ByteArray)(w:World)(S1 S2 S3:ByteArray)(x y:Int)(HC:Hid (∀ w,Calls Tryz.prog 17 #[.string s] w fun e w'=>(∃ b off cap,e=.returned (.slice (some ⟨b,off,none⟩) 4 cap)∧((4:Int)≤(cap:Int)∧(cap:Int)≤9223372036854775807)∧b<w'.heap.size∧w'.cell? ⟨b,off,none⟩=some (.string ⟨#[108,111,97,100]⟩)∧w'.cell? ⟨b,off+1,none⟩=some (.string S1)∧w'.cell? ⟨b,off+2,none⟩=some (.string S2)∧w'.cell? ⟨b,off+3,none⟩=some (.string S3))∧∃ g,w'=more w g))(HX:Hid (∀ w,Calls Tryz.prog 19 #[.string S2] w fun e w'=>e=.returned (.tuple #[.int .i64 x,.bool false])∧w'=w))(HY:Hid (∀ w,Calls Tryz.prog 19 #[.string S3] w fun e w'=>e=.returned (.tuple #[.int .i64 y,.bool true])∧w'=w)) :
  Calls Tryz.prog 9 #[.string s] w fun e w'=>e=.returned (.tuple #[.agg #[.int .i64 0,.string ⟨#[]⟩,.string ⟨#[]⟩,.int .i64 0,.int .i64 0,.int .i64 0],.int .i64 60])∧∃ g,w'=more w g:=by
 go_enter Tryz.func9,Tryz.ntmps9
 go_wp2_with (first|(go_at_call 17;(with_reducible refine(HC.out _).mono ?_);rintro e w2 ⟨⟨b,off,cap,rfl,⟨hc1,hc2⟩,hbl,c0,c1,c2,c3⟩,g2,rfl⟩;have hbl2:=hbl;simp [more_size]at hbl2)|(go_at_call 18;(with_reducible refine(HB.out _).mono ?_);rintro e w3 ⟨rfl,g3,rfl⟩)|(go_at_call 20;(with_reducible refine(HN.out _).mono ?_);rintro e w4 ⟨rfl,g4,rfl⟩)|(go_at_call 19;first|((with_reducible refine(HX.out _).mono ?_);rintro e w5 ⟨rfl,hw5⟩;have hw6:=hw5.symm;subst hw6)|((with_reducible refine(HY.out _).mono ?_);rintro e w5 ⟨rfl,hw5⟩;have hw6:=hw5.symm;subst hw6)))
 refine bodyPost_ret (v:=.tuple #[.agg #[.int .i64 0,.string ⟨#[]⟩,.string ⟨#[]⟩,.int .i64 0,.int .i64 0,.int .i64 0],.int .i64 60]) (by simp [results,Tryz.results9,go_sem];try rfl) rfl ⟨rfl,more_of_below bT⟩
theorem rp_load_b(s:ByteArray)(w:World)(S1 S2 S3:ByteArray)(x y:Int)(HC:Hid (∀ w,Calls Tryz.prog 17 #[.string s] w fun e w'=>(∃ b off cap,e=.returned (.slice (some ⟨b,off,none⟩) 4 cap)∧((4:Int)≤(cap:Int)∧(cap:Int)≤9223372036854775807)∧b<w'.heap.size∧w'.cell? ⟨b,off,none⟩=some (.string ⟨#[108,111,97,100]⟩)∧w'.cell? ⟨b,off+1,none⟩=some (.string S1)∧w'.cell? ⟨b,off+2,none⟩=some (.string S2)∧w'.cell? ⟨b,off+3,none⟩=some (.string S3))∧∃ g,w'=more w g))(HX:Hid (∀ w,Calls Tryz.prog 19 #[.string S2] w fun e w'=>e=.returned (.tuple #[.int .i64 x,.bool false])∧w'=w))(HY:Hid (∀ w,Calls Tryz.prog 19 #[.string S3] w fun e w'=>e=.returned (.tuple #[.int .i64 y,.bool false])∧w'=w)) :
  Calls Tryz.prog 9 #[.string s] w fun e w'=>e=.returned (.tuple #[.agg #[.int .i64 0,.string ⟨#[]⟩,.string ⟨#[]⟩,.int .i64 0,.int .i64 0,.int .i64 0],.int .i64 60])∧∃ g,w'=more w g:=by
 go_enter Tryz.func9,Tryz.ntmps9
 go_wp2_with (first|(go_at_call 17;(with_reducible refine(HC.out _).mono ?_);rintro e w2 ⟨⟨b,off,cap,rfl,⟨hc1,hc2⟩,hbl,c0,c1,c2,c3⟩,g2,rfl⟩;have hbl2:=hbl;simp [more_size]at hbl2)|(go_at_call 18;(with_reducible refine(HB.out _).mono ?_);rintro e w3 ⟨rfl,g3,rfl⟩)|(go_at_call 20;(with_reducible refine(HN.out _).mono ?_);rintro e w4 ⟨rfl,g4,rfl⟩)|(go_at_call 19;first|((with_reducible refine(HX.out _).mono ?_);rintro e w5 ⟨rfl,hw5⟩;have hw6:=hw5.symm;subst hw6)|((with_reducible refine(HY.out _).mono ?_);rintro e w5 ⟨rfl,hw5⟩;have hw6:=hw5.symm;subst hw6)))
 refine bodyPost_ret (v:=.tuple #[.agg #[.int .i64 0,.string ⟨#[]⟩,.string ⟨#[]⟩,.int .i64 0,.int .i64 0,.int .i64 0],.int .i64 60]) (by simp [results,Tryz.results9,go_sem];try rfl) rfl ⟨rfl,more_of_below bT⟩
theorem rp_load_c(s:ByteArray)(w:World)(S1 S2 S3:ByteArray)(x y:Int)(HC:Hid (∀ w,Calls Tryz.prog 17 #[.string s] w fun e w'=>(∃ b off cap,e=.returned (.slice (some ⟨b,off,none⟩) 4 cap)∧((4:Int)≤(cap:Int)∧(cap:Int)≤9223372036854775807)∧b<w'.heap.size∧w'.cell? ⟨b,off,none⟩=some (.string ⟨#[108,111,97,100]⟩)∧w'.cell? ⟨b,off+1,none⟩=some (.string S1)∧w'.cell? ⟨b,off+2,none⟩=some (.string S2)∧w'.cell? ⟨b,off+3,none⟩=some (.string S3))∧∃ g,w'=more w g))(HX:Hid (∀ w,Calls Tryz.prog 19 #[.string S2] w fun e w'=>e=.returned (.tuple #[.int .i64 x,.bool true])∧w'=w))(HY:Hid (∀ w,Calls Tryz.prog 19 #[.string S3] w fun e w'=>e=.returned (.tuple #[.int .i64 y,.bool false])∧w'=w)) :
  Calls Tryz.prog 9 #[.string s] w fun e w'=>e=.returned (.tuple #[.agg #[.int .i64 0,.string ⟨#[]⟩,.string ⟨#[]⟩,.int .i64 0,.int .i64 0,.int .i64 0],.int .i64 60])∧∃ g,w'=more w g:=by
 go_enter Tryz.func9,Tryz.ntmps9
 go_wp2_with (first|(go_at_call 17;(with_reducible refine(HC.out _).mono ?_);rintro e w2 ⟨⟨b,off,cap,rfl,⟨hc1,hc2⟩,hbl,c0,c1,c2,c3⟩,g2,rfl⟩;have hbl2:=hbl;simp [more_size]at hbl2)|(go_at_call 18;(with_reducible refine(HB.out _).mono ?_);rintro e w3 ⟨rfl,g3,rfl⟩)|(go_at_call 20;(with_reducible refine(HN.out _).mono ?_);rintro e w4 ⟨rfl,g4,rfl⟩)|(go_at_call 19;first|((with_reducible refine(HX.out _).mono ?_);rintro e w5 ⟨rfl,hw5⟩;have hw6:=hw5.symm;subst hw6)|((with_reducible refine(HY.out _).mono ?_);rintro e w5 ⟨rfl,hw5⟩;have hw6:=hw5.symm;subst hw6)))
 refine bodyPost_ret (v:=.tuple #[.agg #[.int .i64 0,.string ⟨#[]⟩,.string ⟨#[]⟩,.int .i64 0,.int .i64 0,.int .i64 0],.int .i64 60]) (by simp [results,Tryz.results9,go_sem];try rfl) rfl ⟨rfl,more_of_below bT⟩
theorem rp_load_bad(s:ByteArray)(w:World)(S1 S2 S3:ByteArray)(x y:Int)(HC:Hid (∀ w,Calls Tryz.prog 17 #[.string s] w fun e w'=>(∃ b off cap,e=.returned (.slice (some ⟨b,off,none⟩) 4 cap)∧((4:Int)≤(cap:Int)∧(cap:Int)≤9223372036854775807)∧b<w'.heap.size∧w'.cell? ⟨b,off,none⟩=some (.string ⟨#[108,111,97,100]⟩)∧w'.cell? ⟨b,off+1,none⟩=some (.string S1)∧w'.cell? ⟨b,off+2,none⟩=some (.string S2)∧w'.cell? ⟨b,off+3,none⟩=some (.string S3))∧∃ g,w'=more w g))(HX:Hid (∀ w,Calls Tryz.prog 19 #[.string S2] w fun e w'=>e=.returned (.tuple #[.int .i64 x,.bool true])∧w'=w))(HY:Hid (∀ w,Calls Tryz.prog 19 #[.string S3] w fun e w'=>e=.returned (.tuple #[.int .i64 y,.bool true])∧w'=w))(HN:Hid (∀ w,Calls Tryz.prog 20 #[.string S1] w fun e w'=>e=.returned (.bool false)∧∃ g,w'=more w g)) :
  Calls Tryz.prog 9 #[.string s] w fun e w'=>e=.returned (.tuple #[.agg #[.int .i64 0,.string ⟨#[]⟩,.string ⟨#[]⟩,.int .i64 0,.int .i64 0,.int .i64 0],.int .i64 60])∧∃ g,w'=more w g:=by
 go_enter Tryz.func9,Tryz.ntmps9
 go_wp2_with (first|(go_at_call 17;(with_reducible refine(HC.out _).mono ?_);rintro e w2 ⟨⟨b,off,cap,rfl,⟨hc1,hc2⟩,hbl,c0,c1,c2,c3⟩,g2,rfl⟩;have hbl2:=hbl;simp [more_size]at hbl2)|(go_at_call 18;(with_reducible refine(HB.out _).mono ?_);rintro e w3 ⟨rfl,g3,rfl⟩)|(go_at_call 20;(with_reducible refine(HN.out _).mono ?_);rintro e w4 ⟨rfl,g4,rfl⟩)|(go_at_call 19;first|((with_reducible refine(HX.out _).mono ?_);rintro e w5 ⟨rfl,hw5⟩;have hw6:=hw5.symm;subst hw6)|((with_reducible refine(HY.out _).mono ?_);rintro e w5 ⟨rfl,hw5⟩;have hw6:=hw5.symm;subst hw6)))
 refine bodyPost_ret (v:=.tuple #[.agg #[.int .i64 0,.string ⟨#[]⟩,.string ⟨#[]⟩,.int .i64 0,.int .i64 0,.int .i64 0],.int .i64 60]) (by simp [results,Tryz.results9,go_sem];try rfl) rfl ⟨rfl,more_of_below bT⟩
theorem rp_load_yes(s:ByteArray)(w:World)(S1 S2 S3:ByteArray)(x y:Int)(HC:Hid (∀ w,Calls Tryz.prog 17 #[.string s] w fun e w'=>(∃ b off cap,e=.returned (.slice (some ⟨b,off,none⟩) 4 cap)∧((4:Int)≤(cap:Int)∧(cap:Int)≤9223372036854775807)∧b<w'.heap.size∧w'.cell? ⟨b,off,none⟩=some (.string ⟨#[108,111,97,100]⟩)∧w'.cell? ⟨b,off+1,none⟩=some (.string S1)∧w'.cell? ⟨b,off+2,none⟩=some (.string S2)∧w'.cell? ⟨b,off+3,none⟩=some (.string S3))∧∃ g,w'=more w g))(HX:Hid (∀ w,Calls Tryz.prog 19 #[.string S2] w fun e w'=>e=.returned (.tuple #[.int .i64 x,.bool true])∧w'=w))(HY:Hid (∀ w,Calls Tryz.prog 19 #[.string S3] w fun e w'=>e=.returned (.tuple #[.int .i64 y,.bool true])∧w'=w))(HN:Hid (∀ w,Calls Tryz.prog 20 #[.string S1] w fun e w'=>e=.returned (.bool true)∧∃ g,w'=more w g)) :
  Calls Tryz.prog 9 #[.string s] w fun e w'=>e=.returned (.tuple #[.agg #[.int .i64 4,.string S1,.string ⟨#[]⟩,.int .i64 0,.int .i64 x,.int .i64 y],.int .i64 0])∧∃ g,w'=more w g:=by
 go_enter Tryz.func9,Tryz.ntmps9
 go_wp2_with (first|(go_at_call 17;(with_reducible refine(HC.out _).mono ?_);rintro e w2 ⟨⟨b,off,cap,rfl,⟨hc1,hc2⟩,hbl,c0,c1,c2,c3⟩,g2,rfl⟩;have hbl2:=hbl;simp [more_size]at hbl2)|(go_at_call 18;(with_reducible refine(HB.out _).mono ?_);rintro e w3 ⟨rfl,g3,rfl⟩)|(go_at_call 20;(with_reducible refine(HN.out _).mono ?_);rintro e w4 ⟨rfl,g4,rfl⟩)|(go_at_call 19;first|((with_reducible refine(HX.out _).mono ?_);rintro e w5 ⟨rfl,hw5⟩;have hw6:=hw5.symm;subst hw6)|((with_reducible refine(HY.out _).mono ?_);rintro e w5 ⟨rfl,hw5⟩;have hw6:=hw5.symm;subst hw6)))
 refine bodyPost_ret (v:=.tuple #[.agg #[.int .i64 4,.string S1,.string ⟨#[]⟩,.int .i64 0,.int .i64 x,.int .i64 y],.int .i64 0]) (by simp [results,Tryz.results9,go_sem];try rfl) rfl ⟨rfl,more_of_below bT⟩
theorem rp_run_a(s:ByteArray)(w:World)(S1 S2 B:ByteArray)(z:Int)(HC:Hid (∀ w,Calls Tryz.prog 17 #[.string s] w fun e w'=>(∃ b off cap,e=.returned (.slice (some ⟨b,off,none⟩) 3 cap)∧((3:Int)≤(cap:Int)∧(cap:Int)≤9223372036854775807)∧b<w'.heap.size∧w'.cell? ⟨b,off,none⟩=some (.string ⟨#[114,117,110]⟩)∧w'.cell? ⟨b,off+1,none⟩=some (.string S1)∧w'.cell? ⟨b,off+2,none⟩=some (.string S2))∧∃ g,w'=more w g))(HX:Hid (∀ w,Calls Tryz.prog 19 #[.string S1] w fun e w'=>e=.returned (.tuple #[.int .i64 z,.bool false])∧w'=w))(HB:Hid (∀ w,Calls Tryz.prog 18 #[.string S2] w fun e w'=>e=.returned (.tuple #[.string B,.bool true])∧∃ g,w'=more w g)) :
  Calls Tryz.prog 9 #[.string s] w fun e w'=>e=.returned (.tuple #[.agg #[.int .i64 0,.string ⟨#[]⟩,.string ⟨#[]⟩,.int .i64 0,.int .i64 0,.int .i64 0],.int .i64 60])∧∃ g,w'=more w g:=by
 go_enter Tryz.func9,Tryz.ntmps9
 go_wp2_with (first|(go_at_call 17;(with_reducible refine(HC.out _).mono ?_);rintro e w2 ⟨⟨b,off,cap,rfl,⟨hc1,hc2⟩,hbl,c0,c1,c2⟩,g2,rfl⟩;have hbl2:=hbl;simp [more_size]at hbl2)|(go_at_call 18;(with_reducible refine(HB.out _).mono ?_);rintro e w3 ⟨rfl,g3,rfl⟩)|(go_at_call 20;(with_reducible refine(HN.out _).mono ?_);rintro e w4 ⟨rfl,g4,rfl⟩)|(go_at_call 19;first|((with_reducible refine(HX.out _).mono ?_);rintro e w5 ⟨rfl,hw5⟩;have hw6:=hw5.symm;subst hw6)|((with_reducible refine(HY.out _).mono ?_);rintro e w5 ⟨rfl,hw5⟩;have hw6:=hw5.symm;subst hw6)))
 refine bodyPost_ret (v:=.tuple #[.agg #[.int .i64 0,.string ⟨#[]⟩,.string ⟨#[]⟩,.int .i64 0,.int .i64 0,.int .i64 0],.int .i64 60]) (by simp [results,Tryz.results9,go_sem];try rfl) rfl ⟨rfl,more_of_below bT⟩
theorem rp_run_b(s:ByteArray)(w:World)(S1 S2 B:ByteArray)(z:Int)(HC:Hid (∀ w,Calls Tryz.prog 17 #[.string s] w fun e w'=>(∃ b off cap,e=.returned (.slice (some ⟨b,off,none⟩) 3 cap)∧((3:Int)≤(cap:Int)∧(cap:Int)≤9223372036854775807)∧b<w'.heap.size∧w'.cell? ⟨b,off,none⟩=some (.string ⟨#[114,117,110]⟩)∧w'.cell? ⟨b,off+1,none⟩=some (.string S1)∧w'.cell? ⟨b,off+2,none⟩=some (.string S2))∧∃ g,w'=more w g))(HX:Hid (∀ w,Calls Tryz.prog 19 #[.string S1] w fun e w'=>e=.returned (.tuple #[.int .i64 z,.bool false])∧w'=w))(HB:Hid (∀ w,Calls Tryz.prog 18 #[.string S2] w fun e w'=>e=.returned (.tuple #[.string B,.bool false])∧∃ g,w'=more w g)) :
  Calls Tryz.prog 9 #[.string s] w fun e w'=>e=.returned (.tuple #[.agg #[.int .i64 0,.string ⟨#[]⟩,.string ⟨#[]⟩,.int .i64 0,.int .i64 0,.int .i64 0],.int .i64 60])∧∃ g,w'=more w g:=by
 go_enter Tryz.func9,Tryz.ntmps9
 go_wp2_with (first|(go_at_call 17;(with_reducible refine(HC.out _).mono ?_);rintro e w2 ⟨⟨b,off,cap,rfl,⟨hc1,hc2⟩,hbl,c0,c1,c2⟩,g2,rfl⟩;have hbl2:=hbl;simp [more_size]at hbl2)|(go_at_call 18;(with_reducible refine(HB.out _).mono ?_);rintro e w3 ⟨rfl,g3,rfl⟩)|(go_at_call 20;(with_reducible refine(HN.out _).mono ?_);rintro e w4 ⟨rfl,g4,rfl⟩)|(go_at_call 19;first|((with_reducible refine(HX.out _).mono ?_);rintro e w5 ⟨rfl,hw5⟩;have hw6:=hw5.symm;subst hw6)|((with_reducible refine(HY.out _).mono ?_);rintro e w5 ⟨rfl,hw5⟩;have hw6:=hw5.symm;subst hw6)))
 refine bodyPost_ret (v:=.tuple #[.agg #[.int .i64 0,.string ⟨#[]⟩,.string ⟨#[]⟩,.int .i64 0,.int .i64 0,.int .i64 0],.int .i64 60]) (by simp [results,Tryz.results9,go_sem];try rfl) rfl ⟨rfl,more_of_below bT⟩
theorem rp_run_c(s:ByteArray)(w:World)(S1 S2 B:ByteArray)(z:Int)(HC:Hid (∀ w,Calls Tryz.prog 17 #[.string s] w fun e w'=>(∃ b off cap,e=.returned (.slice (some ⟨b,off,none⟩) 3 cap)∧((3:Int)≤(cap:Int)∧(cap:Int)≤9223372036854775807)∧b<w'.heap.size∧w'.cell? ⟨b,off,none⟩=some (.string ⟨#[114,117,110]⟩)∧w'.cell? ⟨b,off+1,none⟩=some (.string S1)∧w'.cell? ⟨b,off+2,none⟩=some (.string S2))∧∃ g,w'=more w g))(HX:Hid (∀ w,Calls Tryz.prog 19 #[.string S1] w fun e w'=>e=.returned (.tuple #[.int .i64 z,.bool true])∧w'=w))(HB:Hid (∀ w,Calls Tryz.prog 18 #[.string S2] w fun e w'=>e=.returned (.tuple #[.string B,.bool false])∧∃ g,w'=more w g)) :
  Calls Tryz.prog 9 #[.string s] w fun e w'=>e=.returned (.tuple #[.agg #[.int .i64 0,.string ⟨#[]⟩,.string ⟨#[]⟩,.int .i64 0,.int .i64 0,.int .i64 0],.int .i64 60])∧∃ g,w'=more w g:=by
 go_enter Tryz.func9,Tryz.ntmps9
 go_wp2_with (first|(go_at_call 17;(with_reducible refine(HC.out _).mono ?_);rintro e w2 ⟨⟨b,off,cap,rfl,⟨hc1,hc2⟩,hbl,c0,c1,c2⟩,g2,rfl⟩;have hbl2:=hbl;simp [more_size]at hbl2)|(go_at_call 18;(with_reducible refine(HB.out _).mono ?_);rintro e w3 ⟨rfl,g3,rfl⟩)|(go_at_call 20;(with_reducible refine(HN.out _).mono ?_);rintro e w4 ⟨rfl,g4,rfl⟩)|(go_at_call 19;first|((with_reducible refine(HX.out _).mono ?_);rintro e w5 ⟨rfl,hw5⟩;have hw6:=hw5.symm;subst hw6)|((with_reducible refine(HY.out _).mono ?_);rintro e w5 ⟨rfl,hw5⟩;have hw6:=hw5.symm;subst hw6)))
 refine bodyPost_ret (v:=.tuple #[.agg #[.int .i64 0,.string ⟨#[]⟩,.string ⟨#[]⟩,.int .i64 0,.int .i64 0,.int .i64 0],.int .i64 60]) (by simp [results,Tryz.results9,go_sem];try rfl) rfl ⟨rfl,more_of_below bT⟩
theorem rp_run_yes(s:ByteArray)(w:World)(S1 S2 B:ByteArray)(z:Int)(HC:Hid (∀ w,Calls Tryz.prog 17 #[.string s] w fun e w'=>(∃ b off cap,e=.returned (.slice (some ⟨b,off,none⟩) 3 cap)∧((3:Int)≤(cap:Int)∧(cap:Int)≤9223372036854775807)∧b<w'.heap.size∧w'.cell? ⟨b,off,none⟩=some (.string ⟨#[114,117,110]⟩)∧w'.cell? ⟨b,off+1,none⟩=some (.string S1)∧w'.cell? ⟨b,off+2,none⟩=some (.string S2))∧∃ g,w'=more w g))(HX:Hid (∀ w,Calls Tryz.prog 19 #[.string S1] w fun e w'=>e=.returned (.tuple #[.int .i64 z,.bool true])∧w'=w))(HB:Hid (∀ w,Calls Tryz.prog 18 #[.string S2] w fun e w'=>e=.returned (.tuple #[.string B,.bool true])∧∃ g,w'=more w g)) :
  Calls Tryz.prog 9 #[.string s] w fun e w'=>e=.returned (.tuple #[.agg #[.int .i64 5,.string ⟨#[]⟩,.string B,.int .i64 z,.int .i64 0,.int .i64 0],.int .i64 0])∧∃ g,w'=more w g:=by
 go_enter Tryz.func9,Tryz.ntmps9
 go_wp2_with (first|(go_at_call 17;(with_reducible refine(HC.out _).mono ?_);rintro e w2 ⟨⟨b,off,cap,rfl,⟨hc1,hc2⟩,hbl,c0,c1,c2⟩,g2,rfl⟩;have hbl2:=hbl;simp [more_size]at hbl2)|(go_at_call 18;(with_reducible refine(HB.out _).mono ?_);rintro e w3 ⟨rfl,g3,rfl⟩)|(go_at_call 20;(with_reducible refine(HN.out _).mono ?_);rintro e w4 ⟨rfl,g4,rfl⟩)|(go_at_call 19;first|((with_reducible refine(HX.out _).mono ?_);rintro e w5 ⟨rfl,hw5⟩;have hw6:=hw5.symm;subst hw6)|((with_reducible refine(HY.out _).mono ?_);rintro e w5 ⟨rfl,hw5⟩;have hw6:=hw5.symm;subst hw6)))
 refine bodyPost_ret (v:=.tuple #[.agg #[.int .i64 5,.string ⟨#[]⟩,.string B,.int .i64 z,.int .i64 0,.int .i64 0],.int .i64 0]) (by simp [results,Tryz.results9,go_sem];try rfl) rfl ⟨rfl,more_of_below bT⟩
theorem rcut_is(s:ByteArray)(w:World)(hmax:s.size≤1000000)(l:List (List UInt8))(hl:Cn.cutW s.data.toList=l)(hne:l ≠ []) :
  Calls Tryz.prog 17 #[.string s] w fun e w'=>(∃ b off cap,e=.returned (.slice (some ⟨b,off,none⟩) l.length cap)∧((l.length:Int)≤(cap:Int)∧(cap:Int)≤9223372036854775807)∧b<w'.heap.size∧∀ j x,l[j]?=some x→w'.cell? ⟨b,off+j,none⟩=some (.string ⟨x.toArray⟩))∧∃ g,w'=more w g:=by
 refine(rcut_any s w hmax).mono fun e w' ⟨⟨v,he,hR⟩,hw⟩=>⟨?_,hw⟩
 rw [hl]at hR
 obtain⟨b,off,cap,rfl,h1,h2,h3,h4⟩:=Cn.cell_at hR hne
 unfold maxLen at h2
 exact⟨b,off,cap,he,⟨by omega,by omega⟩,h3,h4⟩
theorem rParse_any(s:ByteArray)(w:World)(hmax:s.size≤1000000) :
  Calls Tryz.prog 9 #[.string s] w fun e w'=>e=.returned (.tuple #[Cn.cm (Cn.parseO s.data.toList).1,.int .i64 (Cn.parseO s.data.toList).2])∧∃ g,w'=more w g:=by
 have hsl:s.data.toList.length=s.size:=by simp
 have hle:=(Cn.cutW_le s.data.toList).1
 obtain⟨k,r,hkr⟩:=Cn.cutW_ne s.data.toList
 rw [Cn.parseO_pd,hkr]
 have HC:=fun w=>rcut_is s w hmax _ hkr (by simp)
 have hBy:=fun(t:List UInt8) (ht:t∈k::r) (u:World)=>rbytes_any ⟨t.toArray⟩ u (show t.toArray.size≤1000000 by have:=hle t (by rw [hkr];exact ht);simp;omega)
 have hNu:=fun(t:List UInt8) (u:World)=>rnum_any ⟨t.toArray⟩ u
 have hNm:=fun(t:List UInt8) (u:World)=>rname_any ⟨t.toArray⟩ u
 have hz:0<(k::r).length:=by simp
 have hne2:∀ m:Nat,(k::r).length ≠ m→(((k::r).length:Int) == (m:Int))=false:=fun m h=>by rw [beq_eq_false_iff_ne];omega
 have C1:∀ w,Calls Tryz.prog 17 #[.string s] w fun e w'=>(∃ b off cap,e=.returned (.slice (some ⟨b,off,none⟩) (k::r).length cap)∧(((k::r).length:Int)≤(cap:Int)∧(cap:Int)≤9223372036854775807)∧b<w'.heap.size∧w'.cell? ⟨b,off,none⟩=some (.string ⟨k.toArray⟩))∧∃ g,w'=more w g:=fun w=>(HC w).mono (by rintro e w' ⟨⟨b,off,cap,h1,h2,h3,h4⟩,hw⟩;exact⟨⟨b,off,cap,h1,h2,h3,(by have:=h4 0 k (by simp);rwa [Nat.add_zero]at this:w'.cell? ⟨b,off,none⟩=some (.string ⟨k.toArray⟩))⟩,hw⟩)
 by_cases h1:k=Cn.kWrite
 ·subst h1
  by_cases hm:(Cn.kWrite::r).length=3
  ·obtain⟨n,t,rfl⟩:∃ n t,r=[n,t]:=by
    match r,hm with
    | [n,t],_=>exact⟨n,t,rfl⟩
   have hp:Cn.pdO [Cn.kWrite,n,t]=(⟨1,n,(Cn.bytesO t).1,0,0,0⟩,(Cn.bytesO t).2 && Cn.nameC n):=rfl
   rw [hp]
   have C3:∀ w,Calls Tryz.prog 17 #[.string s] w fun e w'=>(∃ b off cap,e=.returned (.slice (some ⟨b,off,none⟩) 3 cap)∧((3:Int)≤(cap:Int)∧(cap:Int)≤9223372036854775807)∧b<w'.heap.size∧w'.cell? ⟨b,off,none⟩=some (.string ⟨#[119,114,105,116,101]⟩)∧w'.cell? ⟨b,off+1,none⟩=some (.string ⟨n.toArray⟩)∧w'.cell? ⟨b,off+2,none⟩=some (.string ⟨t.toArray⟩))∧∃ g,w'=more w g:=fun w=>(HC w).mono (by rintro e w' ⟨⟨b,off,cap,h1,h2,h3,h4⟩,hw⟩;exact⟨⟨b,off,cap,h1,h2,h3,(by have:=h4 0 Cn.kWrite (by simp);rwa [Nat.add_zero]at this),h4 1 n (by simp),h4 2 t (by simp)⟩,hw⟩)
   have HB:=hBy t (by simp)
   have HN:=hNm n
   rw [show(⟨t.toArray⟩:ByteArray).data.toList=t from rfl]at HB
   rw [show(⟨n.toArray⟩:ByteArray).data.toList=n from rfl]at HN
   generalize Cn.bytesO t=q at *
   generalize Cn.nameC n=nb at *
   obtain⟨qx,qb⟩:=q
   cases qb
   ·exact rp_write_no s w _ _ _ (hid C3) (hid HB)
   ·cases nb
    ·exact rp_write_bad s w _ _ _ (hid C3) (hid HB) (hid HN)
    ·exact rp_write_yes s w _ _ _ (hid C3) (hid HB) (hid HN)
  ·have hp:(Cn.pdO (Cn.kWrite::r)).2=false:=by
    match r,hm with
    | [],_=>rfl
    | [_],_=>rfl
    | [_,_],h=>exact absurd rfl h
    | _::_::_::_,_=>rfl
   rw [hp]
   exact rp_write_len s w _ (by omega) hz (hne2 3 hm) (hid C1)
 ·by_cases h2:k=Cn.kDelete
  ·subst h2
   by_cases hm:(Cn.kDelete::r).length=2
   ·obtain⟨n,rfl⟩:∃ n,r=[n]:=by
     match r,hm with
     | [n],_=>exact⟨n,rfl⟩
    have hp:Cn.pdO [Cn.kDelete,n]=(⟨2,n,[],0,0,0⟩,Cn.nameC n):=rfl
    rw [hp]
    have C3:∀ w,Calls Tryz.prog 17 #[.string s] w fun e w'=>(∃ b off cap,e=.returned (.slice (some ⟨b,off,none⟩) 2 cap)∧((2:Int)≤(cap:Int)∧(cap:Int)≤9223372036854775807)∧b<w'.heap.size∧w'.cell? ⟨b,off,none⟩=some (.string ⟨#[100,101,108,101,116,101]⟩)∧w'.cell? ⟨b,off+1,none⟩=some (.string ⟨n.toArray⟩))∧∃ g,w'=more w g:=fun w=>(HC w).mono (by rintro e w' ⟨⟨b,off,cap,h1,h2,h3,h4⟩,hw⟩;exact⟨⟨b,off,cap,h1,h2,h3,(by have:=h4 0 Cn.kDelete (by simp);rwa [Nat.add_zero]at this),h4 1 n (by simp)⟩,hw⟩)
    have HN:=hNm n
    rw [show(⟨n.toArray⟩:ByteArray).data.toList=n from rfl]at HN
    generalize Cn.nameC n=nb at *
    cases nb
    ·exact rp_delete_bad s w _ (hid C3) (hid HN)
    ·exact rp_delete_yes s w _ (hid C3) (hid HN)
   ·have hp:(Cn.pdO (Cn.kDelete::r)).2=false:=by
     match r,hm with
     | [],_=>rfl
     | [_],h=>exact absurd rfl h
     | _::_::_,_=>rfl
    rw [hp]
    exact rp_delete_len s w _ (by omega) hz (hne2 2 hm) (hid C1)
  ·by_cases h3:k=Cn.kCompile
   ·subst h3
    by_cases hm:(Cn.kCompile::r).length=2
    ·obtain⟨n,rfl⟩:∃ n,r=[n]:=by
      match r,hm with
      | [n],_=>exact⟨n,rfl⟩
     have hp:Cn.pdO [Cn.kCompile,n]=(⟨3,n,[],0,0,0⟩,Cn.nameC n):=rfl
     rw [hp]
     have C3:∀ w,Calls Tryz.prog 17 #[.string s] w fun e w'=>(∃ b off cap,e=.returned (.slice (some ⟨b,off,none⟩) 2 cap)∧((2:Int)≤(cap:Int)∧(cap:Int)≤9223372036854775807)∧b<w'.heap.size∧w'.cell? ⟨b,off,none⟩=some (.string ⟨#[99,111,109,112,105,108,101]⟩)∧w'.cell? ⟨b,off+1,none⟩=some (.string ⟨n.toArray⟩))∧∃ g,w'=more w g:=fun w=>(HC w).mono (by rintro e w' ⟨⟨b,off,cap,h1,h2,h3,h4⟩,hw⟩;exact⟨⟨b,off,cap,h1,h2,h3,(by have:=h4 0 Cn.kCompile (by simp);rwa [Nat.add_zero]at this),h4 1 n (by simp)⟩,hw⟩)
     have HN:=hNm n
     rw [show(⟨n.toArray⟩:ByteArray).data.toList=n from rfl]at HN
     generalize Cn.nameC n=nb at *
     cases nb
     ·exact rp_compile_bad s w _ (hid C3) (hid HN)
     ·exact rp_compile_yes s w _ (hid C3) (hid HN)
    ·have hp:(Cn.pdO (Cn.kCompile::r)).2=false:=by
      match r,hm with
      | [],_=>rfl
      | [_],h=>exact absurd rfl h
      | _::_::_,_=>rfl
     rw [hp]
     exact rp_compile_len s w _ (by omega) hz (hne2 2 hm) (hid C1)
   ·by_cases h4:k=Cn.kLoad
    ·subst h4
     by_cases hm:(Cn.kLoad::r).length=4
     ·obtain⟨n,x,y,rfl⟩:∃ n x y,r=[n,x,y]:=by
       match r,hm with
       | [n,x,y],_=>exact⟨n,x,y,rfl⟩
      have hp:Cn.pdO [Cn.kLoad,n,x,y]=(⟨4,n,[],0,(Cn.numO x).1,(Cn.numO y).1⟩,((Cn.numO x).2 && (Cn.numO y).2) && Cn.nameC n):=rfl
      rw [hp]
      have C3:∀ w,Calls Tryz.prog 17 #[.string s] w fun e w'=>(∃ b off cap,e=.returned (.slice (some ⟨b,off,none⟩) 4 cap)∧((4:Int)≤(cap:Int)∧(cap:Int)≤9223372036854775807)∧b<w'.heap.size∧w'.cell? ⟨b,off,none⟩=some (.string ⟨#[108,111,97,100]⟩)∧w'.cell? ⟨b,off+1,none⟩=some (.string ⟨n.toArray⟩)∧w'.cell? ⟨b,off+2,none⟩=some (.string ⟨x.toArray⟩)∧w'.cell? ⟨b,off+3,none⟩=some (.string ⟨y.toArray⟩))∧∃ g,w'=more w g:=fun w=>(HC w).mono (by rintro e w' ⟨⟨b,off,cap,h1,h2,h3,h4⟩,hw⟩;exact⟨⟨b,off,cap,h1,h2,h3,(by have:=h4 0 Cn.kLoad (by simp);rwa [Nat.add_zero]at this),h4 1 n (by simp),h4 2 x (by simp),h4 3 y (by simp)⟩,hw⟩)
      have HX:=hNu x
      have HY:=hNu y
      have HN:=hNm n
      rw [show(⟨x.toArray⟩:ByteArray).data.toList=x from rfl]at HX
      rw [show(⟨y.toArray⟩:ByteArray).data.toList=y from rfl]at HY
      rw [show(⟨n.toArray⟩:ByteArray).data.toList=n from rfl]at HN
      generalize Cn.numO x=p at *
      generalize Cn.numO y=q at *
      generalize Cn.nameC n=nb at *
      obtain⟨px,pb⟩:=p
      obtain⟨qx,qb⟩:=q
      cases pb <;> cases qb
      ·exact rp_load_b s w _ _ _ _ _ (hid C3) (hid HX) (hid HY)
      ·exact rp_load_a s w _ _ _ _ _ (hid C3) (hid HX) (hid HY)
      ·exact rp_load_c s w _ _ _ _ _ (hid C3) (hid HX) (hid HY)
      ·cases nb
       ·exact rp_load_bad s w _ _ _ _ _ (hid C3) (hid HX) (hid HY) (hid HN)
       ·exact rp_load_yes s w _ _ _ _ _ (hid C3) (hid HX) (hid HY) (hid HN)
     ·have hp:(Cn.pdO (Cn.kLoad::r)).2=false:=by
       match r,hm with
       | [],_=>rfl
       | [_],_=>rfl
       | [_,_],_=>rfl
       | [_,_,_],h=>exact absurd rfl h
       | _::_::_::_::_,_=>rfl
      rw [hp]
      exact rp_load_len s w _ (by omega) hz (hne2 4 hm) (hid C1)
    ·by_cases h5:k=Cn.kRun
     ·subst h5
      by_cases hm:(Cn.kRun::r).length=3
      ·obtain⟨x,t,rfl⟩:∃ n t,r=[n,t]:=by
        match r,hm with
        | [n,t],_=>exact⟨n,t,rfl⟩
       have hp:Cn.pdO [Cn.kRun,x,t]=(⟨5,[],(Cn.bytesO t).1,(Cn.numO x).1,0,0⟩,(Cn.numO x).2 && (Cn.bytesO t).2):=rfl
       rw [hp]
       have C3:∀ w,Calls Tryz.prog 17 #[.string s] w fun e w'=>(∃ b off cap,e=.returned (.slice (some ⟨b,off,none⟩) 3 cap)∧((3:Int)≤(cap:Int)∧(cap:Int)≤9223372036854775807)∧b<w'.heap.size∧w'.cell? ⟨b,off,none⟩=some (.string ⟨#[114,117,110]⟩)∧w'.cell? ⟨b,off+1,none⟩=some (.string ⟨x.toArray⟩)∧w'.cell? ⟨b,off+2,none⟩=some (.string ⟨t.toArray⟩))∧∃ g,w'=more w g:=fun w=>(HC w).mono (by rintro e w' ⟨⟨b,off,cap,h1,h2,h3,h4⟩,hw⟩;exact⟨⟨b,off,cap,h1,h2,h3,(by have:=h4 0 Cn.kRun (by simp);rwa [Nat.add_zero]at this),h4 1 x (by simp),h4 2 t (by simp)⟩,hw⟩)
       have HX:=hNu x
       have HB:=hBy t (by simp)
       rw [show(⟨x.toArray⟩:ByteArray).data.toList=x from rfl]at HX
       rw [show(⟨t.toArray⟩:ByteArray).data.toList=t from rfl]at HB
       generalize Cn.numO x=p at *
       generalize Cn.bytesO t=q at *
       obtain⟨px,pb⟩:=p
       obtain⟨qx,qb⟩:=q
       cases pb <;> cases qb
       ·exact rp_run_b s w _ _ _ _ (hid C3) (hid HX) (hid HB)
       ·exact rp_run_a s w _ _ _ _ (hid C3) (hid HX) (hid HB)
       ·exact rp_run_c s w _ _ _ _ (hid C3) (hid HX) (hid HB)
       ·exact rp_run_yes s w _ _ _ _ (hid C3) (hid HX) (hid HB)
      ·have hp:(Cn.pdO (Cn.kRun::r)).2=false:=by
        match r,hm with
        | [],_=>rfl
        | [_],_=>rfl
        | [_,_],h=>exact absurd rfl h
        | _::_::_::_,_=>rfl
       rw [hp]
       exact rp_run_len s w _ (by omega) hz (hne2 3 hm) (hid C1)
     ·have hp:(Cn.pdO (k::r)).2=false:=by unfold Cn.pdO;simp only [List.headD_cons,h1,h2,h3,h4,h5,if_false]
      rw [hp]
      exact rp_other s w _ _ (by omega) hz (Cn.key_ne h1) (Cn.key_ne h2) (Cn.key_ne h3) (Cn.key_ne h4) (Cn.key_ne h5) (hid C1)
end Go.Proofs.YthkegfdijohpaaaGreatDoor
