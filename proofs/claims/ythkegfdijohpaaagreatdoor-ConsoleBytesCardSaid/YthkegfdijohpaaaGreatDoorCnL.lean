/- The walks of console.parsed and Parse: the command of a line. Conditions: the library's variables are as they were laid;the line's size is bounded. -/
import Derived.Test.YthkegfdijohpaaaGreatDoorCnH
import Derived.Test.YthkegfdijohpaaaGreatDoorCnG
import Derived.Test.YthkegfdijohpaaaGreatDoorCnB
import Derived.Test.YthkegfdijohpaaaGreatDoorCnW
namespace Go.Proofs.YthkegfdijohpaaaGreatDoor
set_option linter.all false
open Go.Lib (hid)
set_option maxRecDepth 1000000
set_option maxHeartbeats 16000000
open Go.RowKit
namespace Cn
def cm(c:Cm):Value:=.agg #[.int .i64 c.op,.string ⟨c.name.toArray⟩,.string ⟨c.text.toArray⟩,.int .i64 c.fuel,.int .i64 c.words,.int .i64 c.stack]
def pdO(l:List (List UInt8)):Cm × Bool:=
 let k:=l.headD []
 if k=kWrite then(match l with|[_,n,t]=>(⟨1,n,(bytesO t).1,0,0,0⟩,(bytesO t).2 && nameC n)|_=>(zero,false))
 else if k=kDelete then(match l with|[_,n]=>(⟨2,n,[],0,0,0⟩,nameC n)|_=>(⟨2,[],[],0,0,0⟩,false))
 else if k=kCompile then(match l with|[_,n]=>(⟨3,n,[],0,0,0⟩,nameC n)|_=>(⟨3,[],[],0,0,0⟩,false))
 else if k=kLoad then(match l with|[_,n,a,b]=>(⟨4,n,[],0,(numO a).1,(numO b).1⟩,((numO a).2 && (numO b).2) && nameC n)|_=>(zero,false))
 else if k=kRun then(match l with|[_,a,t]=>(⟨5,[],(bytesO t).1,(numO a).1,0,0⟩,(numO a).2 && (bytesO t).2)|_=>(zero,false))
 else(zero,false)
theorem bytesO_of(t:List UInt8):bytesC t=if (bytesO t).2 then some (bytesO t).1 else none:=by unfold bytesO;cases bytesC t <;> rfl
theorem numO_of(t:List UInt8):numC t=if (numO t).2 then some (numO t).1 else none:=by unfold numO;cases numC t <;> rfl
theorem keys_ne:kWrite ≠ kDelete∧kWrite ≠ kCompile∧kWrite ≠ kLoad∧kWrite ≠ kRun∧kDelete ≠ kCompile∧kDelete ≠ kLoad∧kDelete ≠ kRun∧kCompile ≠ kLoad∧kCompile ≠ kRun∧kLoad ≠ kRun:=by decide
theorem pd_cmd(l:List (List UInt8)):cmdW l=if (pdO l).2 then some (pdO l).1 else none:=by
 obtain⟨n1,n2,n3,n4,n5,n6,n7,n8,n9,n10⟩:=keys_ne
 match l with
 | []=>rfl
 | [k] =>
  unfold pdO cmdW;simp only [List.headD_cons]
  by_cases h1:k=kWrite <;> by_cases h2:k=kDelete <;> by_cases h3:k=kCompile <;> by_cases h4:k=kLoad <;> by_cases h5:k=kRun <;> simp_all
 | [k,n] =>
  unfold pdO cmdW;simp only [List.headD_cons]
  rcases Bool.eq_false_or_eq_true (nameC n)with hn|hn <;>
  by_cases h1:k=kWrite <;> by_cases h2:k=kDelete <;> by_cases h3:k=kCompile <;> by_cases h4:k=kLoad <;> by_cases h5:k=kRun <;> simp_all
 | [k,n,t] =>
  unfold pdO cmdW;simp only [List.headD_cons,bytesO_of,numO_of]
  rcases Bool.eq_false_or_eq_true (nameC n)with hn|hn <;> rcases Bool.eq_false_or_eq_true (bytesO t).2 with hb|hb <;> rcases Bool.eq_false_or_eq_true (numO n).2 with hz|hz <;>
  by_cases h1:k=kWrite <;> by_cases h2:k=kDelete <;> by_cases h3:k=kCompile <;> by_cases h4:k=kLoad <;> by_cases h5:k=kRun <;> simp_all
 | [k,n,a,b] =>
  unfold pdO cmdW;simp only [List.headD_cons,numO_of]
  rcases Bool.eq_false_or_eq_true (nameC n)with hn|hn <;> rcases Bool.eq_false_or_eq_true (numO a).2 with hb|hb <;> rcases Bool.eq_false_or_eq_true (numO b).2 with hz|hz <;>
  by_cases h1:k=kWrite <;> by_cases h2:k=kDelete <;> by_cases h3:k=kCompile <;> by_cases h4:k=kLoad <;> by_cases h5:k=kRun <;> simp_all
 | k::n::a::b::c::r =>
  unfold pdO cmdW;simp only [List.headD_cons]
  by_cases h1:k=kWrite <;> by_cases h2:k=kDelete <;> by_cases h3:k=kCompile <;> by_cases h4:k=kLoad <;> by_cases h5:k=kRun <;> simp_all
def parseO(s:List UInt8):Cm × Int:=match parseC s with|some c=>(c,0)|none=>(zero,60)
theorem parseO_pd(s:List UInt8):parseO s=if (pdO (cutW s)).2 then((pdO (cutW s)).1,0)else(zero,60):=by
 unfold parseO parseC;rw [pd_cmd];split <;> simp_all
theorem cutW_le(s:List UInt8):(∀ l∈cutW s,l.length≤s.length)∧(cutW s).length≤s.length+1:=by
 induction s with
 | nil=>simp [cutW]
 | cons c t ih =>
  unfold cutW
  split
  ·refine⟨fun l hl=>?_,by simp;omega⟩
   rcases List.mem_cons.1 hl with rfl|hl
   ·simp
   ·have:=ih.1 l hl;simp;omega
  ·split
   ·exact⟨fun l hl=>by simp at hl;subst hl;simp,by simp⟩
   ·rename_i a b h
    rw [h]at ih
    refine⟨fun l hl=>?_,by have:=ih.2;simp at this ⊢;omega⟩
    rcases List.mem_cons.1 hl with rfl|hl
    ·have:=ih.1 a (by simp);simp;omega
    ·have:=ih.1 l (by simp [hl]);simp;omega
end Cn
theorem pd_write_len(b off n cap:Nat)(w:World)(hc:(n:Int)≤(cap:Int))(hcm:(cap:Int)≤9223372036854775807)(h1:(0:Int)<(n:Int))(h1n:0<n)(hb:b<w.heap.size)(c0:w.cell? ⟨b,off,none⟩=some (.string ⟨#[119,114,105,116,101]⟩))(hne:((n:Int) == 3)=false) :
  Calls Tryz.prog 15 #[.slice (some ⟨b,off,none⟩) n cap] w fun e w'=>e=.returned (.tuple #[.agg #[.int .i64 0,.string ⟨#[]⟩,.string ⟨#[]⟩,.int .i64 0,.int .i64 0,.int .i64 0],.bool false])∧∃ g,w'=more w g:=by
 go_enter Tryz.func15,Tryz.ntmps15
 go_wp2_with (first|(go_at_call 29;(with_reducible refine(HB.out _).mono ?_);rintro e w2 ⟨rfl,g2,rfl⟩)|(go_at_call 31;(with_reducible refine(HN.out _).mono ?_);rintro e w3 ⟨rfl,g3,rfl⟩)|(go_at_call 30;first|((with_reducible refine(HX.out _ (HG.out.below bT)).mono ?_);rintro e w4 ⟨rfl,g4,rfl⟩)|((with_reducible refine(HY.out _ (HG.out.below bT)).mono ?_);rintro e w5 ⟨rfl,g5,rfl⟩)))
 refine bodyPost_ret (v:=.tuple #[.agg #[.int .i64 0,.string ⟨#[]⟩,.string ⟨#[]⟩,.int .i64 0,.int .i64 0,.int .i64 0],.bool false]) (by simp [results,Tryz.results15,go_sem];try rfl) rfl ⟨rfl,more_of_below bT⟩
theorem pd_delete_len(b off n cap:Nat)(w:World)(hc:(n:Int)≤(cap:Int))(hcm:(cap:Int)≤9223372036854775807)(h1:(0:Int)<(n:Int))(h1n:0<n)(hb:b<w.heap.size)(c0:w.cell? ⟨b,off,none⟩=some (.string ⟨#[100,101,108,101,116,101]⟩))(hne:((n:Int) == 2)=false) :
  Calls Tryz.prog 15 #[.slice (some ⟨b,off,none⟩) n cap] w fun e w'=>e=.returned (.tuple #[.agg #[.int .i64 2,.string ⟨#[]⟩,.string ⟨#[]⟩,.int .i64 0,.int .i64 0,.int .i64 0],.bool false])∧∃ g,w'=more w g:=by
 go_enter Tryz.func15,Tryz.ntmps15
 go_wp2_with (first|(go_at_call 29;(with_reducible refine(HB.out _).mono ?_);rintro e w2 ⟨rfl,g2,rfl⟩)|(go_at_call 31;(with_reducible refine(HN.out _).mono ?_);rintro e w3 ⟨rfl,g3,rfl⟩)|(go_at_call 30;first|((with_reducible refine(HX.out _ (HG.out.below bT)).mono ?_);rintro e w4 ⟨rfl,g4,rfl⟩)|((with_reducible refine(HY.out _ (HG.out.below bT)).mono ?_);rintro e w5 ⟨rfl,g5,rfl⟩)))
 refine bodyPost_ret (v:=.tuple #[.agg #[.int .i64 2,.string ⟨#[]⟩,.string ⟨#[]⟩,.int .i64 0,.int .i64 0,.int .i64 0],.bool false]) (by simp [results,Tryz.results15,go_sem];try rfl) rfl ⟨rfl,more_of_below bT⟩
theorem pd_compile_len(b off n cap:Nat)(w:World)(hc:(n:Int)≤(cap:Int))(hcm:(cap:Int)≤9223372036854775807)(h1:(0:Int)<(n:Int))(h1n:0<n)(hb:b<w.heap.size)(c0:w.cell? ⟨b,off,none⟩=some (.string ⟨#[99,111,109,112,105,108,101]⟩))(hne:((n:Int) == 2)=false) :
  Calls Tryz.prog 15 #[.slice (some ⟨b,off,none⟩) n cap] w fun e w'=>e=.returned (.tuple #[.agg #[.int .i64 3,.string ⟨#[]⟩,.string ⟨#[]⟩,.int .i64 0,.int .i64 0,.int .i64 0],.bool false])∧∃ g,w'=more w g:=by
 go_enter Tryz.func15,Tryz.ntmps15
 go_wp2_with (first|(go_at_call 29;(with_reducible refine(HB.out _).mono ?_);rintro e w2 ⟨rfl,g2,rfl⟩)|(go_at_call 31;(with_reducible refine(HN.out _).mono ?_);rintro e w3 ⟨rfl,g3,rfl⟩)|(go_at_call 30;first|((with_reducible refine(HX.out _ (HG.out.below bT)).mono ?_);rintro e w4 ⟨rfl,g4,rfl⟩)|((with_reducible refine(HY.out _ (HG.out.below bT)).mono ?_);rintro e w5 ⟨rfl,g5,rfl⟩)))
 refine bodyPost_ret (v:=.tuple #[.agg #[.int .i64 3,.string ⟨#[]⟩,.string ⟨#[]⟩,.int .i64 0,.int .i64 0,.int .i64 0],.bool false]) (by simp [results,Tryz.results15,go_sem];try rfl) rfl ⟨rfl,more_of_below bT⟩
theorem pd_load_len(b off n cap:Nat)(w:World)(hc:(n:Int)≤(cap:Int))(hcm:(cap:Int)≤9223372036854775807)(h1:(0:Int)<(n:Int))(h1n:0<n)(hb:b<w.heap.size)(c0:w.cell? ⟨b,off,none⟩=some (.string ⟨#[108,111,97,100]⟩))(hne:((n:Int) == 4)=false) :
  Calls Tryz.prog 15 #[.slice (some ⟨b,off,none⟩) n cap] w fun e w'=>e=.returned (.tuple #[.agg #[.int .i64 0,.string ⟨#[]⟩,.string ⟨#[]⟩,.int .i64 0,.int .i64 0,.int .i64 0],.bool false])∧∃ g,w'=more w g:=by
 go_enter Tryz.func15,Tryz.ntmps15
 go_wp2_with (first|(go_at_call 29;(with_reducible refine(HB.out _).mono ?_);rintro e w2 ⟨rfl,g2,rfl⟩)|(go_at_call 31;(with_reducible refine(HN.out _).mono ?_);rintro e w3 ⟨rfl,g3,rfl⟩)|(go_at_call 30;first|((with_reducible refine(HX.out _ (HG.out.below bT)).mono ?_);rintro e w4 ⟨rfl,g4,rfl⟩)|((with_reducible refine(HY.out _ (HG.out.below bT)).mono ?_);rintro e w5 ⟨rfl,g5,rfl⟩)))
 refine bodyPost_ret (v:=.tuple #[.agg #[.int .i64 0,.string ⟨#[]⟩,.string ⟨#[]⟩,.int .i64 0,.int .i64 0,.int .i64 0],.bool false]) (by simp [results,Tryz.results15,go_sem];try rfl) rfl ⟨rfl,more_of_below bT⟩
theorem pd_run_len(b off n cap:Nat)(w:World)(hc:(n:Int)≤(cap:Int))(hcm:(cap:Int)≤9223372036854775807)(h1:(0:Int)<(n:Int))(h1n:0<n)(hb:b<w.heap.size)(c0:w.cell? ⟨b,off,none⟩=some (.string ⟨#[114,117,110]⟩))(hne:((n:Int) == 3)=false) :
  Calls Tryz.prog 15 #[.slice (some ⟨b,off,none⟩) n cap] w fun e w'=>e=.returned (.tuple #[.agg #[.int .i64 0,.string ⟨#[]⟩,.string ⟨#[]⟩,.int .i64 0,.int .i64 0,.int .i64 0],.bool false])∧∃ g,w'=more w g:=by
 go_enter Tryz.func15,Tryz.ntmps15
 go_wp2_with (first|(go_at_call 29;(with_reducible refine(HB.out _).mono ?_);rintro e w2 ⟨rfl,g2,rfl⟩)|(go_at_call 31;(with_reducible refine(HN.out _).mono ?_);rintro e w3 ⟨rfl,g3,rfl⟩)|(go_at_call 30;first|((with_reducible refine(HX.out _ (HG.out.below bT)).mono ?_);rintro e w4 ⟨rfl,g4,rfl⟩)|((with_reducible refine(HY.out _ (HG.out.below bT)).mono ?_);rintro e w5 ⟨rfl,g5,rfl⟩)))
 refine bodyPost_ret (v:=.tuple #[.agg #[.int .i64 0,.string ⟨#[]⟩,.string ⟨#[]⟩,.int .i64 0,.int .i64 0,.int .i64 0],.bool false]) (by simp [results,Tryz.results15,go_sem];try rfl) rfl ⟨rfl,more_of_below bT⟩
theorem pd_other(b off n cap:Nat)(w:World)(hc:(n:Int)≤(cap:Int))(hcm:(cap:Int)≤9223372036854775807)(h1:(0:Int)<(n:Int))(h1n:0<n)(hb:b<w.heap.size)(S0:ByteArray)(c0:w.cell? ⟨b,off,none⟩=some (.string S0))(xWrite:(S0.toList == [119,114,105,116,101])=false)(xDelete:(S0.toList == [100,101,108,101,116,101])=false)(xCompile:(S0.toList == [99,111,109,112,105,108,101])=false)(xLoad:(S0.toList == [108,111,97,100])=false)(xRun:(S0.toList == [114,117,110])=false) :
  Calls Tryz.prog 15 #[.slice (some ⟨b,off,none⟩) n cap] w fun e w'=>e=.returned (.tuple #[.agg #[.int .i64 0,.string ⟨#[]⟩,.string ⟨#[]⟩,.int .i64 0,.int .i64 0,.int .i64 0],.bool false])∧∃ g,w'=more w g:=by
 go_enter Tryz.func15,Tryz.ntmps15
 go_wp2_with (first|(go_at_call 29;(with_reducible refine(HB.out _).mono ?_);rintro e w2 ⟨rfl,g2,rfl⟩)|(go_at_call 31;(with_reducible refine(HN.out _).mono ?_);rintro e w3 ⟨rfl,g3,rfl⟩)|(go_at_call 30;first|((with_reducible refine(HX.out _ (HG.out.below bT)).mono ?_);rintro e w4 ⟨rfl,g4,rfl⟩)|((with_reducible refine(HY.out _ (HG.out.below bT)).mono ?_);rintro e w5 ⟨rfl,g5,rfl⟩)))
 refine bodyPost_ret (v:=.tuple #[.agg #[.int .i64 0,.string ⟨#[]⟩,.string ⟨#[]⟩,.int .i64 0,.int .i64 0,.int .i64 0],.bool false]) (by simp [results,Tryz.results15,go_sem];try rfl) rfl ⟨rfl,more_of_below bT⟩
theorem pd_write_no(S1 S2 B:ByteArray)(b off cap:Nat)(w:World)(hc:(3:Int)≤(cap:Int))(hcm:(cap:Int)≤9223372036854775807)(hb:b<w.heap.size)(c0:w.cell? ⟨b,off,none⟩=some (.string ⟨#[119,114,105,116,101]⟩))(c1:w.cell? ⟨b,off+1,none⟩=some (.string S1))(c2:w.cell? ⟨b,off+2,none⟩=some (.string S2))(HB:Hid (∀ w,Calls Tryz.prog 29 #[.string S2] w fun e w'=>e=.returned (.tuple #[.string B,.bool false])∧∃ g,w'=more w g)) :
  Calls Tryz.prog 15 #[.slice (some ⟨b,off,none⟩) 3 cap] w fun e w'=>e=.returned (.tuple #[.agg #[.int .i64 1,.string S1,.string B,.int .i64 0,.int .i64 0,.int .i64 0],.bool false])∧∃ g,w'=more w g:=by
 go_enter Tryz.func15,Tryz.ntmps15
 go_wp2
 go_region
 go_wp2_with (first|(go_at_call 29;(with_reducible refine(HB.out _).mono ?_);rintro e w2 ⟨rfl,g2,rfl⟩)|(go_at_call 31;(with_reducible refine(HN.out _).mono ?_);rintro e w3 ⟨rfl,g3,rfl⟩)|(go_at_call 30;first|((with_reducible refine(HX.out _ (HG.out.below bT)).mono ?_);rintro e w4 ⟨rfl,g4,rfl⟩)|((with_reducible refine(HY.out _ (HG.out.below bT)).mono ?_);rintro e w5 ⟨rfl,g5,rfl⟩)))
 refine bodyPost_ret (v:=.tuple #[.agg #[.int .i64 1,.string S1,.string B,.int .i64 0,.int .i64 0,.int .i64 0],.bool false]) (by simp [results,Tryz.results15,go_sem];try rfl) rfl ⟨rfl,more_of_below bT⟩
theorem pd_write_yes(S1 S2 B:ByteArray)(nb:Bool)(b off cap:Nat)(w:World)(hc:(3:Int)≤(cap:Int))(hcm:(cap:Int)≤9223372036854775807)(hb:b<w.heap.size)(c0:w.cell? ⟨b,off,none⟩=some (.string ⟨#[119,114,105,116,101]⟩))(c1:w.cell? ⟨b,off+1,none⟩=some (.string S1))(c2:w.cell? ⟨b,off+2,none⟩=some (.string S2))(HB:Hid (∀ w,Calls Tryz.prog 29 #[.string S2] w fun e w'=>e=.returned (.tuple #[.string B,.bool true])∧∃ g,w'=more w g))(HN:Hid (∀ w,Calls Tryz.prog 31 #[.string S1] w fun e w'=>e=.returned (.bool nb)∧∃ g,w'=more w g)) :
  Calls Tryz.prog 15 #[.slice (some ⟨b,off,none⟩) 3 cap] w fun e w'=>e=.returned (.tuple #[.agg #[.int .i64 1,.string S1,.string B,.int .i64 0,.int .i64 0,.int .i64 0],.bool nb])∧∃ g,w'=more w g:=by
 go_enter Tryz.func15,Tryz.ntmps15
 go_wp2
 go_region
 go_wp2_with (first|(go_at_call 29;(with_reducible refine(HB.out _).mono ?_);rintro e w2 ⟨rfl,g2,rfl⟩)|(go_at_call 31;(with_reducible refine(HN.out _).mono ?_);rintro e w3 ⟨rfl,g3,rfl⟩)|(go_at_call 30;first|((with_reducible refine(HX.out _ (HG.out.below bT)).mono ?_);rintro e w4 ⟨rfl,g4,rfl⟩)|((with_reducible refine(HY.out _ (HG.out.below bT)).mono ?_);rintro e w5 ⟨rfl,g5,rfl⟩)))
 refine bodyPost_ret (v:=.tuple #[.agg #[.int .i64 1,.string S1,.string B,.int .i64 0,.int .i64 0,.int .i64 0],.bool nb]) (by simp [results,Tryz.results15,go_sem];try rfl) rfl ⟨rfl,more_of_below bT⟩
theorem pd_delete_yes(S1:ByteArray)(nb:Bool)(b off cap:Nat)(w:World)(hc:(2:Int)≤(cap:Int))(hcm:(cap:Int)≤9223372036854775807)(hb:b<w.heap.size)(c0:w.cell? ⟨b,off,none⟩=some (.string ⟨#[100,101,108,101,116,101]⟩))(c1:w.cell? ⟨b,off+1,none⟩=some (.string S1))(HN:Hid (∀ w,Calls Tryz.prog 31 #[.string S1] w fun e w'=>e=.returned (.bool nb)∧∃ g,w'=more w g)) :
  Calls Tryz.prog 15 #[.slice (some ⟨b,off,none⟩) 2 cap] w fun e w'=>e=.returned (.tuple #[.agg #[.int .i64 2,.string S1,.string ⟨#[]⟩,.int .i64 0,.int .i64 0,.int .i64 0],.bool nb])∧∃ g,w'=more w g:=by
 go_enter Tryz.func15,Tryz.ntmps15
 go_wp2_with (first|(go_at_call 29;(with_reducible refine(HB.out _).mono ?_);rintro e w2 ⟨rfl,g2,rfl⟩)|(go_at_call 31;(with_reducible refine(HN.out _).mono ?_);rintro e w3 ⟨rfl,g3,rfl⟩)|(go_at_call 30;first|((with_reducible refine(HX.out _ (HG.out.below bT)).mono ?_);rintro e w4 ⟨rfl,g4,rfl⟩)|((with_reducible refine(HY.out _ (HG.out.below bT)).mono ?_);rintro e w5 ⟨rfl,g5,rfl⟩)))
 refine bodyPost_ret (v:=.tuple #[.agg #[.int .i64 2,.string S1,.string ⟨#[]⟩,.int .i64 0,.int .i64 0,.int .i64 0],.bool nb]) (by simp [results,Tryz.results15,go_sem];try rfl) rfl ⟨rfl,more_of_below bT⟩
theorem pd_compile_yes(S1:ByteArray)(nb:Bool)(b off cap:Nat)(w:World)(hc:(2:Int)≤(cap:Int))(hcm:(cap:Int)≤9223372036854775807)(hb:b<w.heap.size)(c0:w.cell? ⟨b,off,none⟩=some (.string ⟨#[99,111,109,112,105,108,101]⟩))(c1:w.cell? ⟨b,off+1,none⟩=some (.string S1))(HN:Hid (∀ w,Calls Tryz.prog 31 #[.string S1] w fun e w'=>e=.returned (.bool nb)∧∃ g,w'=more w g)) :
  Calls Tryz.prog 15 #[.slice (some ⟨b,off,none⟩) 2 cap] w fun e w'=>e=.returned (.tuple #[.agg #[.int .i64 3,.string S1,.string ⟨#[]⟩,.int .i64 0,.int .i64 0,.int .i64 0],.bool nb])∧∃ g,w'=more w g:=by
 go_enter Tryz.func15,Tryz.ntmps15
 go_wp2_with (first|(go_at_call 29;(with_reducible refine(HB.out _).mono ?_);rintro e w2 ⟨rfl,g2,rfl⟩)|(go_at_call 31;(with_reducible refine(HN.out _).mono ?_);rintro e w3 ⟨rfl,g3,rfl⟩)|(go_at_call 30;first|((with_reducible refine(HX.out _ (HG.out.below bT)).mono ?_);rintro e w4 ⟨rfl,g4,rfl⟩)|((with_reducible refine(HY.out _ (HG.out.below bT)).mono ?_);rintro e w5 ⟨rfl,g5,rfl⟩)))
 refine bodyPost_ret (v:=.tuple #[.agg #[.int .i64 3,.string S1,.string ⟨#[]⟩,.int .i64 0,.int .i64 0,.int .i64 0],.bool nb]) (by simp [results,Tryz.results15,go_sem];try rfl) rfl ⟨rfl,more_of_below bT⟩
theorem pd_load_a(S1 S2 S3:ByteArray)(nb:Bool)(x y:Int)(b off cap:Nat)(w:World)(hc:(4:Int)≤(cap:Int))(hcm:(cap:Int)≤9223372036854775807)(hb:b<w.heap.size)(hg:Gc w)(c0:w.cell? ⟨b,off,none⟩=some (.string ⟨#[108,111,97,100]⟩))(c1:w.cell? ⟨b,off+1,none⟩=some (.string S1))(c2:w.cell? ⟨b,off+2,none⟩=some (.string S2))(c3:w.cell? ⟨b,off+3,none⟩=some (.string S3))(HX:Hid (∀ w,Gc w→Calls Tryz.prog 30 #[.string S2] w fun e w'=>e=.returned (.tuple #[.int .i64 x,.bool false])∧∃ g,w'=more w g))(HY:Hid (∀ w,Gc w→Calls Tryz.prog 30 #[.string S3] w fun e w'=>e=.returned (.tuple #[.int .i64 y,.bool true])∧∃ g,w'=more w g))(HN:Hid (∀ w,Calls Tryz.prog 31 #[.string S1] w fun e w'=>e=.returned (.bool nb)∧∃ g,w'=more w g)) :
  Calls Tryz.prog 15 #[.slice (some ⟨b,off,none⟩) 4 cap] w fun e w'=>e=.returned (.tuple #[.agg #[.int .i64 4,.string S1,.string ⟨#[]⟩,.int .i64 0,.int .i64 x,.int .i64 y],.bool false])∧∃ g,w'=more w g:=by
 have HG:=hid hg
 clear hg
 go_enter Tryz.func15,Tryz.ntmps15
 go_wp2
 go_region
 go_wp2_with (first|(go_at_call 29;(with_reducible refine(HB.out _).mono ?_);rintro e w2 ⟨rfl,g2,rfl⟩)|(go_at_call 31;(with_reducible refine(HN.out _).mono ?_);rintro e w3 ⟨rfl,g3,rfl⟩)|(go_at_call 30;first|((with_reducible refine(HX.out _ (HG.out.below bT)).mono ?_);rintro e w4 ⟨rfl,g4,rfl⟩)|((with_reducible refine(HY.out _ (HG.out.below bT)).mono ?_);rintro e w5 ⟨rfl,g5,rfl⟩)))
 refine bodyPost_ret (v:=.tuple #[.agg #[.int .i64 4,.string S1,.string ⟨#[]⟩,.int .i64 0,.int .i64 x,.int .i64 y],.bool false]) (by simp [results,Tryz.results15,go_sem];try rfl) rfl ⟨rfl,more_of_below bT⟩
theorem pd_load_b(S1 S2 S3:ByteArray)(nb:Bool)(x y:Int)(b off cap:Nat)(w:World)(hc:(4:Int)≤(cap:Int))(hcm:(cap:Int)≤9223372036854775807)(hb:b<w.heap.size)(hg:Gc w)(c0:w.cell? ⟨b,off,none⟩=some (.string ⟨#[108,111,97,100]⟩))(c1:w.cell? ⟨b,off+1,none⟩=some (.string S1))(c2:w.cell? ⟨b,off+2,none⟩=some (.string S2))(c3:w.cell? ⟨b,off+3,none⟩=some (.string S3))(HX:Hid (∀ w,Gc w→Calls Tryz.prog 30 #[.string S2] w fun e w'=>e=.returned (.tuple #[.int .i64 x,.bool false])∧∃ g,w'=more w g))(HY:Hid (∀ w,Gc w→Calls Tryz.prog 30 #[.string S3] w fun e w'=>e=.returned (.tuple #[.int .i64 y,.bool false])∧∃ g,w'=more w g))(HN:Hid (∀ w,Calls Tryz.prog 31 #[.string S1] w fun e w'=>e=.returned (.bool nb)∧∃ g,w'=more w g)) :
  Calls Tryz.prog 15 #[.slice (some ⟨b,off,none⟩) 4 cap] w fun e w'=>e=.returned (.tuple #[.agg #[.int .i64 4,.string S1,.string ⟨#[]⟩,.int .i64 0,.int .i64 x,.int .i64 y],.bool false])∧∃ g,w'=more w g:=by
 have HG:=hid hg
 clear hg
 go_enter Tryz.func15,Tryz.ntmps15
 go_wp2
 go_region
 go_wp2_with (first|(go_at_call 29;(with_reducible refine(HB.out _).mono ?_);rintro e w2 ⟨rfl,g2,rfl⟩)|(go_at_call 31;(with_reducible refine(HN.out _).mono ?_);rintro e w3 ⟨rfl,g3,rfl⟩)|(go_at_call 30;first|((with_reducible refine(HX.out _ (HG.out.below bT)).mono ?_);rintro e w4 ⟨rfl,g4,rfl⟩)|((with_reducible refine(HY.out _ (HG.out.below bT)).mono ?_);rintro e w5 ⟨rfl,g5,rfl⟩)))
 refine bodyPost_ret (v:=.tuple #[.agg #[.int .i64 4,.string S1,.string ⟨#[]⟩,.int .i64 0,.int .i64 x,.int .i64 y],.bool false]) (by simp [results,Tryz.results15,go_sem];try rfl) rfl ⟨rfl,more_of_below bT⟩
theorem pd_load_c(S1 S2 S3:ByteArray)(nb:Bool)(x y:Int)(b off cap:Nat)(w:World)(hc:(4:Int)≤(cap:Int))(hcm:(cap:Int)≤9223372036854775807)(hb:b<w.heap.size)(hg:Gc w)(c0:w.cell? ⟨b,off,none⟩=some (.string ⟨#[108,111,97,100]⟩))(c1:w.cell? ⟨b,off+1,none⟩=some (.string S1))(c2:w.cell? ⟨b,off+2,none⟩=some (.string S2))(c3:w.cell? ⟨b,off+3,none⟩=some (.string S3))(HX:Hid (∀ w,Gc w→Calls Tryz.prog 30 #[.string S2] w fun e w'=>e=.returned (.tuple #[.int .i64 x,.bool true])∧∃ g,w'=more w g))(HY:Hid (∀ w,Gc w→Calls Tryz.prog 30 #[.string S3] w fun e w'=>e=.returned (.tuple #[.int .i64 y,.bool false])∧∃ g,w'=more w g))(HN:Hid (∀ w,Calls Tryz.prog 31 #[.string S1] w fun e w'=>e=.returned (.bool nb)∧∃ g,w'=more w g)) :
  Calls Tryz.prog 15 #[.slice (some ⟨b,off,none⟩) 4 cap] w fun e w'=>e=.returned (.tuple #[.agg #[.int .i64 4,.string S1,.string ⟨#[]⟩,.int .i64 0,.int .i64 x,.int .i64 y],.bool false])∧∃ g,w'=more w g:=by
 have HG:=hid hg
 clear hg
 go_enter Tryz.func15,Tryz.ntmps15
 go_wp2
 go_region
 go_wp2_with (first|(go_at_call 29;(with_reducible refine(HB.out _).mono ?_);rintro e w2 ⟨rfl,g2,rfl⟩)|(go_at_call 31;(with_reducible refine(HN.out _).mono ?_);rintro e w3 ⟨rfl,g3,rfl⟩)|(go_at_call 30;first|((with_reducible refine(HX.out _ (HG.out.below bT)).mono ?_);rintro e w4 ⟨rfl,g4,rfl⟩)|((with_reducible refine(HY.out _ (HG.out.below bT)).mono ?_);rintro e w5 ⟨rfl,g5,rfl⟩)))
 refine bodyPost_ret (v:=.tuple #[.agg #[.int .i64 4,.string S1,.string ⟨#[]⟩,.int .i64 0,.int .i64 x,.int .i64 y],.bool false]) (by simp [results,Tryz.results15,go_sem];try rfl) rfl ⟨rfl,more_of_below bT⟩
theorem pd_load_d(S1 S2 S3:ByteArray)(nb:Bool)(x y:Int)(b off cap:Nat)(w:World)(hc:(4:Int)≤(cap:Int))(hcm:(cap:Int)≤9223372036854775807)(hb:b<w.heap.size)(hg:Gc w)(c0:w.cell? ⟨b,off,none⟩=some (.string ⟨#[108,111,97,100]⟩))(c1:w.cell? ⟨b,off+1,none⟩=some (.string S1))(c2:w.cell? ⟨b,off+2,none⟩=some (.string S2))(c3:w.cell? ⟨b,off+3,none⟩=some (.string S3))(HX:Hid (∀ w,Gc w→Calls Tryz.prog 30 #[.string S2] w fun e w'=>e=.returned (.tuple #[.int .i64 x,.bool true])∧∃ g,w'=more w g))(HY:Hid (∀ w,Gc w→Calls Tryz.prog 30 #[.string S3] w fun e w'=>e=.returned (.tuple #[.int .i64 y,.bool true])∧∃ g,w'=more w g))(HN:Hid (∀ w,Calls Tryz.prog 31 #[.string S1] w fun e w'=>e=.returned (.bool nb)∧∃ g,w'=more w g)) :
  Calls Tryz.prog 15 #[.slice (some ⟨b,off,none⟩) 4 cap] w fun e w'=>e=.returned (.tuple #[.agg #[.int .i64 4,.string S1,.string ⟨#[]⟩,.int .i64 0,.int .i64 x,.int .i64 y],.bool nb])∧∃ g,w'=more w g:=by
 have HG:=hid hg
 clear hg
 go_enter Tryz.func15,Tryz.ntmps15
 go_wp2
 go_region
 go_wp2_with (first|(go_at_call 29;(with_reducible refine(HB.out _).mono ?_);rintro e w2 ⟨rfl,g2,rfl⟩)|(go_at_call 31;(with_reducible refine(HN.out _).mono ?_);rintro e w3 ⟨rfl,g3,rfl⟩)|(go_at_call 30;first|((with_reducible refine(HX.out _ (HG.out.below bT)).mono ?_);rintro e w4 ⟨rfl,g4,rfl⟩)|((with_reducible refine(HY.out _ (HG.out.below bT)).mono ?_);rintro e w5 ⟨rfl,g5,rfl⟩)))
 refine bodyPost_ret (v:=.tuple #[.agg #[.int .i64 4,.string S1,.string ⟨#[]⟩,.int .i64 0,.int .i64 x,.int .i64 y],.bool nb]) (by simp [results,Tryz.results15,go_sem];try rfl) rfl ⟨rfl,more_of_below bT⟩
theorem pd_run_a(S1 S2 B:ByteArray)(z:Int)(b off cap:Nat)(w:World)(hc:(3:Int)≤(cap:Int))(hcm:(cap:Int)≤9223372036854775807)(hb:b<w.heap.size)(hg:Gc w)(c0:w.cell? ⟨b,off,none⟩=some (.string ⟨#[114,117,110]⟩))(c1:w.cell? ⟨b,off+1,none⟩=some (.string S1))(c2:w.cell? ⟨b,off+2,none⟩=some (.string S2))(HX:Hid (∀ w,Gc w→Calls Tryz.prog 30 #[.string S1] w fun e w'=>e=.returned (.tuple #[.int .i64 z,.bool false])∧∃ g,w'=more w g))(HB:Hid (∀ w,Calls Tryz.prog 29 #[.string S2] w fun e w'=>e=.returned (.tuple #[.string B,.bool true])∧∃ g,w'=more w g)) :
  Calls Tryz.prog 15 #[.slice (some ⟨b,off,none⟩) 3 cap] w fun e w'=>e=.returned (.tuple #[.agg #[.int .i64 5,.string ⟨#[]⟩,.string B,.int .i64 z,.int .i64 0,.int .i64 0],.bool false])∧∃ g,w'=more w g:=by
 have HG:=hid hg
 clear hg
 go_enter Tryz.func15,Tryz.ntmps15
 go_wp2_with (first|(go_at_call 29;(with_reducible refine(HB.out _).mono ?_);rintro e w2 ⟨rfl,g2,rfl⟩)|(go_at_call 31;(with_reducible refine(HN.out _).mono ?_);rintro e w3 ⟨rfl,g3,rfl⟩)|(go_at_call 30;first|((with_reducible refine(HX.out _ (HG.out.below bT)).mono ?_);rintro e w4 ⟨rfl,g4,rfl⟩)|((with_reducible refine(HY.out _ (HG.out.below bT)).mono ?_);rintro e w5 ⟨rfl,g5,rfl⟩)))
 refine bodyPost_ret (v:=.tuple #[.agg #[.int .i64 5,.string ⟨#[]⟩,.string B,.int .i64 z,.int .i64 0,.int .i64 0],.bool false]) (by simp [results,Tryz.results15,go_sem];try rfl) rfl ⟨rfl,more_of_below bT⟩
theorem pd_run_b(S1 S2 B:ByteArray)(z:Int)(b off cap:Nat)(w:World)(hc:(3:Int)≤(cap:Int))(hcm:(cap:Int)≤9223372036854775807)(hb:b<w.heap.size)(hg:Gc w)(c0:w.cell? ⟨b,off,none⟩=some (.string ⟨#[114,117,110]⟩))(c1:w.cell? ⟨b,off+1,none⟩=some (.string S1))(c2:w.cell? ⟨b,off+2,none⟩=some (.string S2))(HX:Hid (∀ w,Gc w→Calls Tryz.prog 30 #[.string S1] w fun e w'=>e=.returned (.tuple #[.int .i64 z,.bool false])∧∃ g,w'=more w g))(HB:Hid (∀ w,Calls Tryz.prog 29 #[.string S2] w fun e w'=>e=.returned (.tuple #[.string B,.bool false])∧∃ g,w'=more w g)) :
  Calls Tryz.prog 15 #[.slice (some ⟨b,off,none⟩) 3 cap] w fun e w'=>e=.returned (.tuple #[.agg #[.int .i64 5,.string ⟨#[]⟩,.string B,.int .i64 z,.int .i64 0,.int .i64 0],.bool false])∧∃ g,w'=more w g:=by
 have HG:=hid hg
 clear hg
 go_enter Tryz.func15,Tryz.ntmps15
 go_wp2_with (first|(go_at_call 29;(with_reducible refine(HB.out _).mono ?_);rintro e w2 ⟨rfl,g2,rfl⟩)|(go_at_call 31;(with_reducible refine(HN.out _).mono ?_);rintro e w3 ⟨rfl,g3,rfl⟩)|(go_at_call 30;first|((with_reducible refine(HX.out _ (HG.out.below bT)).mono ?_);rintro e w4 ⟨rfl,g4,rfl⟩)|((with_reducible refine(HY.out _ (HG.out.below bT)).mono ?_);rintro e w5 ⟨rfl,g5,rfl⟩)))
 refine bodyPost_ret (v:=.tuple #[.agg #[.int .i64 5,.string ⟨#[]⟩,.string B,.int .i64 z,.int .i64 0,.int .i64 0],.bool false]) (by simp [results,Tryz.results15,go_sem];try rfl) rfl ⟨rfl,more_of_below bT⟩
theorem pd_run_c(S1 S2 B:ByteArray)(z:Int)(b off cap:Nat)(w:World)(hc:(3:Int)≤(cap:Int))(hcm:(cap:Int)≤9223372036854775807)(hb:b<w.heap.size)(hg:Gc w)(c0:w.cell? ⟨b,off,none⟩=some (.string ⟨#[114,117,110]⟩))(c1:w.cell? ⟨b,off+1,none⟩=some (.string S1))(c2:w.cell? ⟨b,off+2,none⟩=some (.string S2))(HX:Hid (∀ w,Gc w→Calls Tryz.prog 30 #[.string S1] w fun e w'=>e=.returned (.tuple #[.int .i64 z,.bool true])∧∃ g,w'=more w g))(HB:Hid (∀ w,Calls Tryz.prog 29 #[.string S2] w fun e w'=>e=.returned (.tuple #[.string B,.bool false])∧∃ g,w'=more w g)) :
  Calls Tryz.prog 15 #[.slice (some ⟨b,off,none⟩) 3 cap] w fun e w'=>e=.returned (.tuple #[.agg #[.int .i64 5,.string ⟨#[]⟩,.string B,.int .i64 z,.int .i64 0,.int .i64 0],.bool false])∧∃ g,w'=more w g:=by
 have HG:=hid hg
 clear hg
 go_enter Tryz.func15,Tryz.ntmps15
 go_wp2_with (first|(go_at_call 29;(with_reducible refine(HB.out _).mono ?_);rintro e w2 ⟨rfl,g2,rfl⟩)|(go_at_call 31;(with_reducible refine(HN.out _).mono ?_);rintro e w3 ⟨rfl,g3,rfl⟩)|(go_at_call 30;first|((with_reducible refine(HX.out _ (HG.out.below bT)).mono ?_);rintro e w4 ⟨rfl,g4,rfl⟩)|((with_reducible refine(HY.out _ (HG.out.below bT)).mono ?_);rintro e w5 ⟨rfl,g5,rfl⟩)))
 refine bodyPost_ret (v:=.tuple #[.agg #[.int .i64 5,.string ⟨#[]⟩,.string B,.int .i64 z,.int .i64 0,.int .i64 0],.bool false]) (by simp [results,Tryz.results15,go_sem];try rfl) rfl ⟨rfl,more_of_below bT⟩
theorem pd_run_d(S1 S2 B:ByteArray)(z:Int)(b off cap:Nat)(w:World)(hc:(3:Int)≤(cap:Int))(hcm:(cap:Int)≤9223372036854775807)(hb:b<w.heap.size)(hg:Gc w)(c0:w.cell? ⟨b,off,none⟩=some (.string ⟨#[114,117,110]⟩))(c1:w.cell? ⟨b,off+1,none⟩=some (.string S1))(c2:w.cell? ⟨b,off+2,none⟩=some (.string S2))(HX:Hid (∀ w,Gc w→Calls Tryz.prog 30 #[.string S1] w fun e w'=>e=.returned (.tuple #[.int .i64 z,.bool true])∧∃ g,w'=more w g))(HB:Hid (∀ w,Calls Tryz.prog 29 #[.string S2] w fun e w'=>e=.returned (.tuple #[.string B,.bool true])∧∃ g,w'=more w g)) :
  Calls Tryz.prog 15 #[.slice (some ⟨b,off,none⟩) 3 cap] w fun e w'=>e=.returned (.tuple #[.agg #[.int .i64 5,.string ⟨#[]⟩,.string B,.int .i64 z,.int .i64 0,.int .i64 0],.bool true])∧∃ g,w'=more w g:=by
 have HG:=hid hg
 clear hg
 go_enter Tryz.func15,Tryz.ntmps15
 go_wp2_with (first|(go_at_call 29;(with_reducible refine(HB.out _).mono ?_);rintro e w2 ⟨rfl,g2,rfl⟩)|(go_at_call 31;(with_reducible refine(HN.out _).mono ?_);rintro e w3 ⟨rfl,g3,rfl⟩)|(go_at_call 30;first|((with_reducible refine(HX.out _ (HG.out.below bT)).mono ?_);rintro e w4 ⟨rfl,g4,rfl⟩)|((with_reducible refine(HY.out _ (HG.out.below bT)).mono ?_);rintro e w5 ⟨rfl,g5,rfl⟩)))
 refine bodyPost_ret (v:=.tuple #[.agg #[.int .i64 5,.string ⟨#[]⟩,.string B,.int .i64 z,.int .i64 0,.int .i64 0],.bool true]) (by simp [results,Tryz.results15,go_sem];try rfl) rfl ⟨rfl,more_of_below bT⟩

namespace Cn
theorem cell_at{w:World}{v:Value}{l:List (List UInt8)}(h:Reads w v l.length 1 (svs l))(hne:l ≠ []):∃ b off cap,v=.slice (some ⟨b,off,none⟩) l.length cap∧l.length≤cap∧cap≤maxLen∧b<w.heap.size∧∀ j x,l[j]?=some x→w.cell? ⟨b,off+j,none⟩=some (.string ⟨x.toArray⟩):=by
 rcases h.2 with⟨h0,_⟩|⟨b,off,cap,rfl,h1,h2,h3,h4⟩
 ·exact absurd (List.eq_nil_of_length_eq_zero h0) hne
 ·exact⟨b,off,cap,rfl,h1,h2,h3,fun j x hx=>h4 j _ (by simp [svs,hx,sv])⟩
theorem key_ne{x k:List UInt8}(h:x ≠ k):((⟨x.toArray⟩:ByteArray).toList == k)=false:=by
 rw [ByteArray.toList_eq,beq_eq_false_iff_ne];exact h
end Cn

theorem parsed_any(l:List (List UInt8))(v:Value)(w:World)(hg:Gc w)(hne:l ≠ [])(hl:∀ x∈l,x.length≤1000000)(hR:Reads w v l.length 1 (Cn.svs l)) :
  Calls Tryz.prog 15 #[v] w fun e w'=>e=.returned (.tuple #[Cn.cm (Cn.pdO l).1,.bool (Cn.pdO l).2])∧∃ g,w'=more w g:=by
 obtain⟨b,off,cap,rfl,hc,hcm,hb,hcell⟩:=Cn.cell_at hR hne
 unfold maxLen at hcm
 have hBy:=fun(t:List UInt8) (ht:t.length≤1000000) (u:World)=>cbytes_any ⟨t.toArray⟩ u (show t.toArray.size≤1000000 by simpa using ht)
 have hNu:=fun(t:List UInt8) (u:World) (hu:Gc u)=>cnum_any ⟨t.toArray⟩ u hu
 have hNm:=fun(t:List UInt8) (u:World)=>name_any ⟨t.toArray⟩ u
 obtain⟨k,r,rfl⟩:∃ k r,l=k::r:=by cases l with|nil=>exact absurd rfl hne|cons k r=>exact⟨k,r,rfl⟩
 have c0:=hcell 0 k (by simp)
 rw [Nat.add_zero]at c0
 have hz:0<(k::r).length:=by simp
 have hne2:∀ m:Nat,(k::r).length ≠ m→(((k::r).length:Int) == (m:Int))=false:=fun m h=>by rw [beq_eq_false_iff_ne];omega
 by_cases h1:k=Cn.kWrite
 ·subst h1
  by_cases hm:(Cn.kWrite::r).length=3
  ·obtain⟨n,t,rfl⟩:∃ n t,r=[n,t]:=by
    match r,hm with
    | [n,t],_=>exact⟨n,t,rfl⟩
   have hp:Cn.pdO [Cn.kWrite,n,t]=(⟨1,n,(Cn.bytesO t).1,0,0,0⟩,(Cn.bytesO t).2 && Cn.nameC n):=rfl
   rw [hp]
   have HB:=hBy t (hl t (by simp))
   have HN:=hNm n
   cases hok:(Cn.bytesO t).2
   ·rw [show(⟨t.toArray⟩:ByteArray).data.toList=t from rfl,hok]at HB
    exact pd_write_no _ _ _ b off cap w (by omega) (by omega) hb c0 (hcell 1 n (by simp)) (hcell 2 t (by simp)) (hid HB)
   ·rw [show(⟨t.toArray⟩:ByteArray).data.toList=t from rfl,hok]at HB
    exact pd_write_yes _ _ _ _ b off cap w (by omega) (by omega) hb c0 (hcell 1 n (by simp)) (hcell 2 t (by simp)) (hid HB) (hid HN)
  ·have hp:Cn.pdO (Cn.kWrite::r)=(Cn.zero,false):=by
    match r,hm with
    | [],_=>rfl
    | [_],_=>rfl
    | [_,_],h=>exact absurd rfl h
    | _::_::_::_,_=>rfl
   rw [hp]
   exact pd_write_len b off _ cap w (by omega) (by omega) (by omega) hz hb c0 (hne2 3 hm)
 ·by_cases h2:k=Cn.kDelete
  ·subst h2
   by_cases hm:(Cn.kDelete::r).length=2
   ·obtain⟨n,rfl⟩:∃ n,r=[n]:=by
     match r,hm with
     | [n],_=>exact⟨n,rfl⟩
    have hp:Cn.pdO [Cn.kDelete,n]=(⟨2,n,[],0,0,0⟩,Cn.nameC n):=rfl
    rw [hp]
    exact pd_delete_yes _ _ b off cap w (by omega) (by omega) hb c0 (hcell 1 n (by simp)) (hid (hNm n))
   ·have hp:Cn.pdO (Cn.kDelete::r)=(⟨2,[],[],0,0,0⟩,false):=by
     match r,hm with
     | [],_=>rfl
     | [_],h=>exact absurd rfl h
     | _::_::_,_=>rfl
    rw [hp]
    exact pd_delete_len b off _ cap w (by omega) (by omega) (by omega) hz hb c0 (hne2 2 hm)
  ·by_cases h3:k=Cn.kCompile
   ·subst h3
    by_cases hm:(Cn.kCompile::r).length=2
    ·obtain⟨n,rfl⟩:∃ n,r=[n]:=by
      match r,hm with
      | [n],_=>exact⟨n,rfl⟩
     have hp:Cn.pdO [Cn.kCompile,n]=(⟨3,n,[],0,0,0⟩,Cn.nameC n):=rfl
     rw [hp]
     exact pd_compile_yes _ _ b off cap w (by omega) (by omega) hb c0 (hcell 1 n (by simp)) (hid (hNm n))
    ·have hp:Cn.pdO (Cn.kCompile::r)=(⟨3,[],[],0,0,0⟩,false):=by
      match r,hm with
      | [],_=>rfl
      | [_],h=>exact absurd rfl h
      | _::_::_,_=>rfl
     rw [hp]
     exact pd_compile_len b off _ cap w (by omega) (by omega) (by omega) hz hb c0 (hne2 2 hm)
   ·by_cases h4:k=Cn.kLoad
    ·subst h4
     by_cases hm:(Cn.kLoad::r).length=4
     ·obtain⟨n,x,y,rfl⟩:∃ n x y,r=[n,x,y]:=by
       match r,hm with
       | [n,x,y],_=>exact⟨n,x,y,rfl⟩
      have hp:Cn.pdO [Cn.kLoad,n,x,y]=(⟨4,n,[],0,(Cn.numO x).1,(Cn.numO y).1⟩,((Cn.numO x).2 && (Cn.numO y).2) && Cn.nameC n):=rfl
      rw [hp]
      have HX:=hNu x
      have HY:=hNu y
      rw [show(⟨x.toArray⟩:ByteArray).data.toList=x from rfl]at HX
      rw [show(⟨y.toArray⟩:ByteArray).data.toList=y from rfl]at HY
      generalize Cn.numO x=p at *
      generalize Cn.numO y=q at *
      obtain⟨px,pb⟩:=p
      obtain⟨qx,qb⟩:=q
      cases pb <;> cases qb
      ·exact pd_load_b _ _ _ _ _ _ b off cap w (by omega) (by omega) hb hg c0 (hcell 1 n (by simp)) (hcell 2 x (by simp)) (hcell 3 y (by simp)) (hid HX) (hid HY) (hid (hNm n))
      ·exact pd_load_a _ _ _ _ _ _ b off cap w (by omega) (by omega) hb hg c0 (hcell 1 n (by simp)) (hcell 2 x (by simp)) (hcell 3 y (by simp)) (hid HX) (hid HY) (hid (hNm n))
      ·exact pd_load_c _ _ _ _ _ _ b off cap w (by omega) (by omega) hb hg c0 (hcell 1 n (by simp)) (hcell 2 x (by simp)) (hcell 3 y (by simp)) (hid HX) (hid HY) (hid (hNm n))
      ·exact pd_load_d _ _ _ _ _ _ b off cap w (by omega) (by omega) hb hg c0 (hcell 1 n (by simp)) (hcell 2 x (by simp)) (hcell 3 y (by simp)) (hid HX) (hid HY) (hid (hNm n))
     ·have hp:Cn.pdO (Cn.kLoad::r)=(Cn.zero,false):=by
       match r,hm with
       | [],_=>rfl
       | [_],_=>rfl
       | [_,_],_=>rfl
       | [_,_,_],h=>exact absurd rfl h
       | _::_::_::_::_,_=>rfl
      rw [hp]
      exact pd_load_len b off _ cap w (by omega) (by omega) (by omega) hz hb c0 (hne2 4 hm)
    ·by_cases h5:k=Cn.kRun
     ·subst h5
      by_cases hm:(Cn.kRun::r).length=3
      ·obtain⟨x,t,rfl⟩:∃ n t,r=[n,t]:=by
        match r,hm with
        | [n,t],_=>exact⟨n,t,rfl⟩
       have hp:Cn.pdO [Cn.kRun,x,t]=(⟨5,[],(Cn.bytesO t).1,(Cn.numO x).1,0,0⟩,(Cn.numO x).2 && (Cn.bytesO t).2):=rfl
       rw [hp]
       have HX:=hNu x
       have HB:=hBy t (hl t (by simp))
       rw [show(⟨x.toArray⟩:ByteArray).data.toList=x from rfl]at HX
       rw [show(⟨t.toArray⟩:ByteArray).data.toList=t from rfl]at HB
       generalize Cn.numO x=p at *
       generalize Cn.bytesO t=q at *
       obtain⟨px,pb⟩:=p
       obtain⟨qx,qb⟩:=q
       cases pb <;> cases qb
       ·exact pd_run_b _ _ _ _ b off cap w (by omega) (by omega) hb hg c0 (hcell 1 x (by simp)) (hcell 2 t (by simp)) (hid HX) (hid HB)
       ·exact pd_run_a _ _ _ _ b off cap w (by omega) (by omega) hb hg c0 (hcell 1 x (by simp)) (hcell 2 t (by simp)) (hid HX) (hid HB)
       ·exact pd_run_c _ _ _ _ b off cap w (by omega) (by omega) hb hg c0 (hcell 1 x (by simp)) (hcell 2 t (by simp)) (hid HX) (hid HB)
       ·exact pd_run_d _ _ _ _ b off cap w (by omega) (by omega) hb hg c0 (hcell 1 x (by simp)) (hcell 2 t (by simp)) (hid HX) (hid HB)
      ·have hp:Cn.pdO (Cn.kRun::r)=(Cn.zero,false):=by
        match r,hm with
        | [],_=>rfl
        | [_],_=>rfl
        | [_,_],h=>exact absurd rfl h
        | _::_::_::_,_=>rfl
       rw [hp]
       exact pd_run_len b off _ cap w (by omega) (by omega) (by omega) hz hb c0 (hne2 3 hm)
     ·have hp:Cn.pdO (k::r)=(Cn.zero,false):=by unfold Cn.pdO;simp only [List.headD_cons,h1,h2,h3,h4,h5,if_false]
      rw [hp]
      exact pd_other b off _ cap w (by omega) (by omega) (by omega) hz hb _ c0 (Cn.key_ne h1) (Cn.key_ne h2) (Cn.key_ne h3) (Cn.key_ne h4) (Cn.key_ne h5)
theorem cParse_no(s:ByteArray)(w:World)(hg:Gc w)(x1 x2:ByteArray)(z0 z1 z2 z3:Int)
  (HW:Hid (∀ w,Calls Tryz.prog 16 #[.string s] w fun e w'=>(∃ v,e=.returned v∧Reads w' v (Cn.cutW s.data.toList).length 1 (Cn.svs (Cn.cutW s.data.toList)))∧∃ g,w'=more w g))
  (HP:Hid (∀ v w,Gc w→Reads w v (Cn.cutW s.data.toList).length 1 (Cn.svs (Cn.cutW s.data.toList))→Calls Tryz.prog 15 #[v] w fun e w'=>e=.returned (.tuple #[.agg #[.int .i64 z0,.string x1,.string x2,.int .i64 z1,.int .i64 z2,.int .i64 z3],.bool false])∧∃ g,w'=more w g)) :
  Calls Tryz.prog 8 #[.string s] w fun e w'=>e=.returned (.tuple #[Cn.cm Cn.zero,.int .i64 60])∧∃ g,w'=more w g:=by
 have HG:=hid hg
 clear hg
 go_enter Tryz.func8,Tryz.ntmps8
 go_wp2_with (first|(go_at_call 16;(with_reducible refine(HW.out _).mono ?_);rintro e w2 ⟨⟨v,rfl,hR⟩,g2,rfl⟩;replace hR:=hid hR)|(go_at_call 15;(with_reducible refine(HP.out _ _ (HG.out.below bT) hR.out).mono ?_);rintro e w3 ⟨rfl,g3,rfl⟩))
 refine bodyPost_ret (v:=.tuple #[Cn.cm Cn.zero,.int .i64 60]) (by simp [results,Tryz.results8,go_sem];try rfl) rfl ⟨rfl,more_of_below bT⟩
theorem cParse_yes(s:ByteArray)(w:World)(hg:Gc w)(x1 x2:ByteArray)(z0 z1 z2 z3:Int)
  (HW:Hid (∀ w,Calls Tryz.prog 16 #[.string s] w fun e w'=>(∃ v,e=.returned v∧Reads w' v (Cn.cutW s.data.toList).length 1 (Cn.svs (Cn.cutW s.data.toList)))∧∃ g,w'=more w g))
  (HP:Hid (∀ v w,Gc w→Reads w v (Cn.cutW s.data.toList).length 1 (Cn.svs (Cn.cutW s.data.toList))→Calls Tryz.prog 15 #[v] w fun e w'=>e=.returned (.tuple #[.agg #[.int .i64 z0,.string x1,.string x2,.int .i64 z1,.int .i64 z2,.int .i64 z3],.bool true])∧∃ g,w'=more w g)) :
  Calls Tryz.prog 8 #[.string s] w fun e w'=>e=.returned (.tuple #[.agg #[.int .i64 z0,.string x1,.string x2,.int .i64 z1,.int .i64 z2,.int .i64 z3],.int .i64 0])∧∃ g,w'=more w g:=by
 have HG:=hid hg
 clear hg
 go_enter Tryz.func8,Tryz.ntmps8
 go_wp2_with (first|(go_at_call 16;(with_reducible refine(HW.out _).mono ?_);rintro e w2 ⟨⟨v,rfl,hR⟩,g2,rfl⟩;replace hR:=hid hR)|(go_at_call 15;(with_reducible refine(HP.out _ _ (HG.out.below bT) hR.out).mono ?_);rintro e w3 ⟨rfl,g3,rfl⟩))
 refine bodyPost_ret (v:=.tuple #[.agg #[.int .i64 z0,.string x1,.string x2,.int .i64 z1,.int .i64 z2,.int .i64 z3],.int .i64 0]) (by simp [results,Tryz.results8,go_sem];try rfl) rfl ⟨rfl,more_of_below bT⟩
theorem cParse_any(s:ByteArray)(w:World)(hg:Gc w)(hmax:s.size≤1000000) :
  Calls Tryz.prog 8 #[.string s] w fun e w'=>e=.returned (.tuple #[Cn.cm (Cn.parseO s.data.toList).1,.int .i64 (Cn.parseO s.data.toList).2])∧∃ g,w'=more w g:=by
 have hsl:s.data.toList.length=s.size:=by simp
 have HW:=fun w=>words_any s w hmax
 have hle:=Cn.cutW_le s.data.toList
 obtain⟨k,r,hkr⟩:=Cn.cutW_ne s.data.toList
 have HP:=fun v w hg hR=>parsed_any (Cn.cutW s.data.toList) v w hg (by rw [hkr];simp) (fun x hx=>by have:=hle.1 x hx;omega) hR
 rw [Cn.parseO_pd]
 cases hp:(Cn.pdO (Cn.cutW s.data.toList)).2
 ·rw [hp]at HP
  exact cParse_no s w hg _ _ _ _ _ _ (hid HW) (hid HP)
 ·rw [hp]at HP
  exact cParse_yes s w hg _ _ _ _ _ _ (hid HW) (hid HP)
end Go.Proofs.YthkegfdijohpaaaGreatDoor
