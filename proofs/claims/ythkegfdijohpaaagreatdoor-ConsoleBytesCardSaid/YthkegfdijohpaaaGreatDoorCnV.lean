/- The walk of three lines by Run: a run without an image,a file of one byte,a line that is none. Conditions: the library's variables are as they were laid. -/
import Derived.Test.YthkegfdijohpaaaGreatDoorCnU
import Derived.Test.YthkegfdijohpaaaGreatDoorRegX
import Derived.Test.YthkegfdijohpaaaGreatDoorCnI
namespace Go.Proofs.YthkegfdijohpaaaGreatDoor
set_option linter.all false
open Go.Lib (hid)
set_option maxRecDepth 1000000
set_option maxHeartbeats 16000000
open Go.RowKit
open Fr (tkB tkM wT wN wE)
namespace Cn
theorem wp_append_reads{P:Program}{w:World}{o:Oper}{a:Act}{K:Act→World→Prop}{Q:Exit→Act→World→Prop}(s x:Operand)(t:TypeId)
  (ho:o.op=.call { callee:=.builtin .append,args:=#[s,x],argTypes:=#[t,t] })
  (base:Nat) (e:TypeId) (i:TypeInfo) (z:Value) (size bytes:Nat) (ht:P.underlying t=some (.slice e)) (hi:P.info? e=some i) (hz:i.zero=some z) (hsize:i.size=size) (hby:i.bytes=bytes) (hzs:z.cells.size=size) (hsz:0<size)
  (v:Value) (n:Nat) (xs:List Value) (hs:a.eval s=v) (hown:w.ownsRow base e size v n xs) (u:Value) (m:Nat) (ys:List Value) (hx:a.eval x=u) (hR:Reads w u m size ys) (h1:∀ x∈ys,x.oneCell'=true)
  (h63:n+m≤maxLen) (hbytes:(n+m) * bytes≤140737488355328) (hbase:base≤w.heap.size)
  (h:∀ v' w',w'.ownsRow base e size v' (n+m) (xs++ys)→w.grownBy w' v.ownBlock→K (a.put o.dst v') w'):o.wp P a w K Q:=by
 obtain⟨v',w',hr,h2,h3⟩:=run_append_reads (P:=P) base t o.type e i z size bytes ht hi hz hsize hby hzs hsz v n xs hown u m ys hR h1 h63 hbytes hbase
 unfold Oper.wp
 simp [execOp,ho,resolve,invoke,builtin,hs,hx,hr,Result.andThen]
 exact h v' w' h2 h3
theorem fs_grown{W1 W w9:World}{h:Nat}{row:Option Nat}(H:Fs W1 h)(hb:Below W1.heap.size W1 W)(hg:W.grownBy w9 row)(hr:∀ k,row=some k→h+2≤k):Fs w9 h:=by
 have h1:=H.keep hb H.lt
 have hl:=h1.lt
 exact⟨(hg.block h (by omega) (fun e=>by have:=hr _ e.symm;omega)).trans h1.s,(hg.block (h+1) hl (fun e=>by have:=hr _ e.symm;omega)).trans h1.f⟩
theorem owns_oth{W W':World}{base:Nat}{e:TypeId}{size:Nat}{v:Value}{n h:Nat}{xs:List Value}(H:W.ownsRow base e size v n xs)(G:Oth W W' h)(hh:h<base):W'.ownsRow base e size v n xs:=
 H.kept (row:=some h) ⟨G.2.1,G.2.2.1,G.2.2.2.1,G.1,fun k hk hne=>G.2.2.2.2 k hk (fun e=>hne (by rw [e]))⟩ (Or.inr (fun e=>by have:=owns_rows H _ e;omega))
theorem below_oth{B h:Nat}{w W W':World}(hb:Below B w W)(G:Oth W W' h)(hB:B≤h)(hW:B≤W.heap.size):Below B w W':=
 ⟨G.2.1.trans hb.os,G.2.2.1.trans hb.tape,G.2.2.2.1.trans hb.output,Nat.le_trans hb.size G.1,fun k hk=>(G.2.2.2.2 k (by omega) (by omega)).trans (hb.block k hk)⟩
def outs:List Value:=[.string ⟨#[101,114,114,111,114,32,50,53,48,32,97,116,32,48]⟩,.string ⟨#[111,107]⟩,.string ⟨#[101,114,114,111,114,32,54,48,32,97,116,32,48]⟩]
structure RSt(w wr:World)(j:Nat)(v:Value):Prop where
 own:wr.ownsRow (w.heap.size+2) 9 1 v j (outs.take j)
 bel:Below w.heap.size w wr
 fs:j≤1→Fs wr w.heap.size
 sz:w.heap.size+2≤wr.heap.size
end Cn
theorem run_three(w:World)(hg:Gc w)(b:Nat)(hb:b<w.heap.size)(c0:w.cell? ⟨b,0,none⟩=some (.string ⟨#[114,117,110,32,53,32,45]⟩))(c1:w.cell? ⟨b,1,none⟩=some (.string ⟨#[119,114,105,116,101,32,65,46,77,111,100,32,48,48]⟩))(c2:w.cell? ⟨b,2,none⟩=some (.string ⟨#[119,104,97,116]⟩)) :
  Calls Tryz.prog 13 #[.slice (some ⟨b,0,none⟩) 3 3] w fun e w'=>(∃ v,e=.returned (.tuple #[v,.int .i64 0])∧Reads w' v 3 1 Cn.outs)∧∃ g,w'=more w g:=by
 obtain⟨i0,hi,hz0,hz1,hz2⟩:=info_parts Cn.info_s
 have HG0:=hid hg
 have HC:=hid (And.intro c0 (And.intro c1 c2))
 clear hg c0 c1 c2
 go_enter Tryz.func13,Tryz.ntmps13
 go_wp2_with (go_at_call 25;(with_reducible refine(fnew_any _).mono ?_);rintro e w1 ⟨rfl,HF1,hz,hb1⟩;replace HF1:=hid HF1;replace hb1:=hid hb1)
 go_loopw [5,16] (fun v k wr=>∃ j:Nat,j≤3∧k=.int .i64 j∧Hid (Cn.RSt w wr j v)) (fun _ k _=>3 - (intOf k).toNat)
 case atStart=>exact⟨0,by omega,rfl,hid ⟨World.ownsRow_nil _ _ _ _,hb1.out,fun _=>HF1.out,by omega⟩⟩
 case round =>
  obtain⟨j,hj,rfl,H⟩:=hrel
  clear HF1 hb1
  have hj4:j=0∨j=1∨j=2∨j=3:=by omega
  have HG:=hid (HG0.out.below H.out.bel)
  have HB:=hid H.out.bel
  have HO:=hid H.out.own
  have hsz:=H.out.sz
  obtain⟨va,vc,hv⟩:=Cn.owns_form H.out.own
  subst hv
  rcases hj4 with rfl|rfl|rfl|rfl
  ·have HFs:=hid (H.out.fs (by omega))
   have d0:wr.cell? ⟨b,0,none⟩=some (.string ⟨#[114,117,110,32,53,32,45]⟩):=(World.cell?_of_block (H.out.bel.block b hb)).trans HC.out.1
   have hbl:b<wr.heap.size:=by omega
   clear H
   go_wp2_with (go_at_call 8;(with_reducible refine(parse_run5 _ (HG.out.below bT)).mono ?_);rintro e w2 ⟨rfl,g2,rfl⟩)
   obtain⟨X0,hX0⟩:∃ X0,X0=(more wr g2).alloc (.cells #[.int .i64 5,.string ⟨#[]⟩,.string ⟨#[]⟩,.int .i64 5,.int .i64 0,.int .i64 0] 26):=⟨_,rfl⟩
   have hbx:Below wr.heap.size wr X0:=by rw [hX0];exact bT
   have hcx:X0.heap[wr.heap.size+g2.o.size]?=some (.cells #[.int .i64 5,.string ⟨#[]⟩,.string ⟨#[]⟩,.int .i64 5,.int .i64 0,.int .i64 0] 26 (0,0)):=by rw [hX0,← more_size];exact heap_alloc_new _ _
   rw [← hX0]
   clear hX0
   obtain⟨bc,hbc⟩:∃ bc,bc=wr.heap.size+g2.o.size:=⟨_,rfl⟩
   have hbl2:wr.heap.size≤bc:=by omega
   rw [← hbc]at hcx ⊢
   clear hbc
   refine wp_region_G (UpTo 6 (fun X:World=>X.heap[bc]?=some (.cells #[.int .i64 5,.string ⟨#[]⟩,.string ⟨#[]⟩,.int .i64 5,.int .i64 0,.int .i64 0] 26 (0,0)))) 10 (by kernel_rfl) (by kernel_rfl) (fun _=>hcx) (fun _ hS=>?_)
   obtain⟨W1,hW1⟩:∃ W1,W1=World.drew X0:=⟨_,rfl⟩
   rw [← hW1]at hS ⊢
   have hb1:Below wr.heap.size wr W1:=by rw [hW1];exact hbx.drew
   have hc1:W1.heap[bc]?=some (.cells #[.int .i64 5,.string ⟨#[]⟩,.string ⟨#[]⟩,.int .i64 5,.int .i64 0,.int .i64 0] 26 (0,0)):=by rw [hW1];exact hcx
   clear hW1 hbx hcx
   have hl1:bc<W1.heap.size:=(Array.getElem?_eq_some_iff.1 hc1).1
   have HF1:=hid (HFs.out.keep hb1 (by omega))
   have HO1:=hid (owns_kept' HO.out hb1)
   have HB1:=hid (HB.out.trans (hb1.mono (by omega)))
   have HG1:=hid (HG.out.below hb1)
   have HC1:=hid hc1
   have hs1:=hb1.size
   clear hc1 hb1 d0 hbl
   refine tkM (n:=10) (is:=[0,1,3]) (k:=3) rfl (by kernel_rfl) hS ?_
   repeat(first|(refine wT (v:=?_) rfl (by rfl) (fun X hX=>?_) ?_;rotate_left 1;(focus(clear hX;go_simp;try with_reducible rfl))));try simp only [Act.put,zA,z0,z1]
   refine wE fun hS=>?_
   refine tkB (n:=10) (is:=[2,4]) [[2],[5,4]] (k:=2) rfl (by kernel_rfl) hS ?_
   refine wT (i:=2) (v:=.int .i64 5) rfl (by rfl) (fun X xb=>?_) ?_
   focus(have y0:X.cell? ⟨bc,0,none⟩=some (.int .i64 5):=cell_of_row _ _ _ _ _ _ xb;have y1:X.cell? ⟨bc,1,none⟩=some (.string ⟨#[]⟩):=cell_of_row _ _ _ _ _ _ xb;have y2:X.cell? ⟨bc,2,none⟩=some (.string ⟨#[]⟩):=cell_of_row _ _ _ _ _ _ xb;have y3:X.cell? ⟨bc,3,none⟩=some (.int .i64 5):=cell_of_row _ _ _ _ _ _ xb;have y4:X.cell? ⟨bc,4,none⟩=some (.int .i64 0):=cell_of_row _ _ _ _ _ _ xb;have y5:X.cell? ⟨bc,5,none⟩=some (.int .i64 0):=cell_of_row _ _ _ _ _ _ xb;clear xb;go_simp;try with_reducible rfl)
   try simp only [Act.put,zA,z0,z1]
   refine wT (i:=4) (v:=.agg #[.int .i64 5,.string ⟨#[]⟩,.string ⟨#[]⟩,.int .i64 5,.int .i64 0,.int .i64 0]) rfl (by rfl) (fun X xb=>?_) ?_
   focus(have y0:X.cell? ⟨bc,0,none⟩=some (.int .i64 5):=cell_of_row _ _ _ _ _ _ xb;have y1:X.cell? ⟨bc,1,none⟩=some (.string ⟨#[]⟩):=cell_of_row _ _ _ _ _ _ xb;have y2:X.cell? ⟨bc,2,none⟩=some (.string ⟨#[]⟩):=cell_of_row _ _ _ _ _ _ xb;have y3:X.cell? ⟨bc,3,none⟩=some (.int .i64 5):=cell_of_row _ _ _ _ _ _ xb;have y4:X.cell? ⟨bc,4,none⟩=some (.int .i64 0):=cell_of_row _ _ _ _ _ _ xb;have y5:X.cell? ⟨bc,5,none⟩=some (.int .i64 0):=cell_of_row _ _ _ _ _ _ xb;clear xb;go_simp;try with_reducible rfl)
   try simp only [Act.put,zA,z0,z1]
   refine wE fun hS=>?_
   refine rd1 (i:=5) (by kernel_rfl) (.cons rfl (fun K hK=>?_) .nil)
   go_simp
   (go_at_call 28;(with_reducible refine(fdo_run _ _ _ _ _ HF1.out).mono ?_);rintro e w4 ⟨rfl,g4,rfl⟩)
   go_simp
   refine hK.out _ _ (fun _=>(more_block W1 g4 bc hl1).trans HC1.out) fun hS=>?_;clear hK K
   try simp only [Act.put,zA,z0,z1]
   refine rd1 (i:=6) (by kernel_rfl) (.cons rfl (fun K hK=>?_) .nil)
   go_simp
   (go_at_call 27;(with_reducible refine(answer_err _ 250 ⟨#[101,114,114,111,114,32,50,53,48,32,97,116,32,48]⟩ _ ((HG1.out.more _)) (by decide) (hid (fun u hu=>by have h:=failed_at 250 (by omega) (by omega) u hu;rw [err250]at h;exact h))).mono ?_);rintro e w5 ⟨rfl,g5,rfl⟩)
   go_simp
   refine hK.out _ _ (fun h=>absurd h (by simp [Fr.setAll])) fun hS=>?_;clear hK K
   try simp only [Act.put,zA,z0,z1]
   refine rd1 (i:=7) (by kernel_rfl) (.cons rfl (fun K hK=>?_) .nil)
   go_simp
   refine hK.out _ _ (fun h=>absurd h (by simp [Fr.setAll])) fun hS=>?_;clear hK K
   try simp only [Act.put,zA,z0,z1]
   refine rd1 (i:=8) (by kernel_rfl) (.cons rfl (fun K hK=>?_) .nil)
   rw [if_pos (by rfl)]
   refine Cn.wp_append_reads _ _ 40 rfl (w.heap.size+2) 9 i0 (.string ⟨#[]⟩) 1 16 Tryz.underlying40 hi hz0 hz1 hz2 rfl (by decide) _ 0 _ rfl (owns_kept' HO1.out ?_) _ 1 [.string ⟨#[101,114,114,111,114,32,50,53,48,32,97,116,32,48]⟩] rfl (reads_litq _ _ #[.string ⟨#[101,114,114,111,114,32,50,53,48,32,97,116,32,48]⟩] 9 1 1 (by decide) rfl ?_) ?_ ?_ ?_ ?_ ?_
   focus exact bT
   focus(first|rfl|omega|(simp;done)|(simp;omega)|(simp [more_size];done)|(simp [more_size];omega))
   focus(intro q hq;simp at hq;subst hq;rfl)
   focus(unfold maxLen;omega)
   focus omega
   focus(first|omega|(simp;omega)|(simp [more_size];omega))
   intro v' w9 hown' hgrow
   refine hK.out _ _ (fun h=>absurd h (by simp [Fr.setAll])) fun hS=>?_;clear hK K
   try simp only [Act.put,zA,z0,z1]
   refine tkM (n:=10) (is:=[9]) (k:=1) rfl (by kernel_rfl) hS ?_
   repeat(first|(refine wT (v:=?_) rfl (by rfl) (fun X hX=>?_) ?_;rotate_left 1;(focus(clear hX;go_simp;try with_reducible rfl))));try simp only [Act.put,zA,z0,z1]
   refine wE fun hS=>?_
   refine wpAnyG_done (by kernel_rfl) ?_ _;clear hS
   go_wp2
   have hr9:∀ k,Value.ownBlock _=some k→w.heap.size+2≤k:=owns_rows HO1.out
   have hb9:=below_grown (w0:=w) (base:=w.heap.size) (by have q:=HB1.out;exact bT) (by first|omega|(simp [more_size];omega)) hgrow (fun k hk=>by have:=hr9 k hk;omega)
   exact⟨⟨1,by omega,rfl,hid ⟨hown',hb9,fun _=>Cn.fs_grown HF1.out bT hgrow hr9,by have:=hgrow.size;simp [more_size]at this;omega⟩⟩,by simp [intOf]⟩
  ·have HFs:=hid (H.out.fs (by omega))
   have d0:wr.cell? ⟨b,1,none⟩=some (.string ⟨#[119,114,105,116,101,32,65,46,77,111,100,32,48,48]⟩):=(World.cell?_of_block (H.out.bel.block b hb)).trans HC.out.2.1
   have hbl:b<wr.heap.size:=by omega
   clear H
   go_wp2_with (go_at_call 8;(with_reducible refine(parse_writeA _ (HG.out.below bT)).mono ?_);rintro e w2 ⟨rfl,g2,rfl⟩)
   obtain⟨X0,hX0⟩:∃ X0,X0=(more wr g2).alloc (.cells #[.int .i64 1,.string ⟨#[65,46,77,111,100]⟩,.string ⟨#[0]⟩,.int .i64 0,.int .i64 0,.int .i64 0] 26):=⟨_,rfl⟩
   have hbx:Below wr.heap.size wr X0:=by rw [hX0];exact bT
   have hcx:X0.heap[wr.heap.size+g2.o.size]?=some (.cells #[.int .i64 1,.string ⟨#[65,46,77,111,100]⟩,.string ⟨#[0]⟩,.int .i64 0,.int .i64 0,.int .i64 0] 26 (0,0)):=by rw [hX0,← more_size];exact heap_alloc_new _ _
   rw [← hX0]
   clear hX0
   obtain⟨bc,hbc⟩:∃ bc,bc=wr.heap.size+g2.o.size:=⟨_,rfl⟩
   have hbl2:wr.heap.size≤bc:=by omega
   rw [← hbc]at hcx ⊢
   clear hbc
   refine wp_region_G (UpTo 6 (fun X:World=>X.heap[bc]?=some (.cells #[.int .i64 1,.string ⟨#[65,46,77,111,100]⟩,.string ⟨#[0]⟩,.int .i64 0,.int .i64 0,.int .i64 0] 26 (0,0)))) 10 (by kernel_rfl) (by kernel_rfl) (fun _=>hcx) (fun _ hS=>?_)
   obtain⟨W1,hW1⟩:∃ W1,W1=World.drew X0:=⟨_,rfl⟩
   rw [← hW1]at hS ⊢
   have hb1:Below wr.heap.size wr W1:=by rw [hW1];exact hbx.drew
   have hc1:W1.heap[bc]?=some (.cells #[.int .i64 1,.string ⟨#[65,46,77,111,100]⟩,.string ⟨#[0]⟩,.int .i64 0,.int .i64 0,.int .i64 0] 26 (0,0)):=by rw [hW1];exact hcx
   clear hW1 hbx hcx
   have hl1:bc<W1.heap.size:=(Array.getElem?_eq_some_iff.1 hc1).1
   have HF1:=hid (HFs.out.keep hb1 (by omega))
   have HO1:=hid (owns_kept' HO.out hb1)
   have HB1:=hid (HB.out.trans (hb1.mono (by omega)))
   have HG1:=hid (HG.out.below hb1)
   have HC1:=hid hc1
   have hs1:=hb1.size
   clear hc1 hb1 d0 hbl
   refine tkM (n:=10) (is:=[0,1,3]) (k:=3) rfl (by kernel_rfl) hS ?_
   repeat(first|(refine wT (v:=?_) rfl (by rfl) (fun X hX=>?_) ?_;rotate_left 1;(focus(clear hX;go_simp;try with_reducible rfl))));try simp only [Act.put,zA,z0,z1]
   refine wE fun hS=>?_
   refine tkB (n:=10) (is:=[2,4]) [[2],[5,4]] (k:=2) rfl (by kernel_rfl) hS ?_
   refine wT (i:=2) (v:=.int .i64 1) rfl (by rfl) (fun X xb=>?_) ?_
   focus(have y0:X.cell? ⟨bc,0,none⟩=some (.int .i64 1):=cell_of_row _ _ _ _ _ _ xb;have y1:X.cell? ⟨bc,1,none⟩=some (.string ⟨#[65,46,77,111,100]⟩):=cell_of_row _ _ _ _ _ _ xb;have y2:X.cell? ⟨bc,2,none⟩=some (.string ⟨#[0]⟩):=cell_of_row _ _ _ _ _ _ xb;have y3:X.cell? ⟨bc,3,none⟩=some (.int .i64 0):=cell_of_row _ _ _ _ _ _ xb;have y4:X.cell? ⟨bc,4,none⟩=some (.int .i64 0):=cell_of_row _ _ _ _ _ _ xb;have y5:X.cell? ⟨bc,5,none⟩=some (.int .i64 0):=cell_of_row _ _ _ _ _ _ xb;clear xb;go_simp;try with_reducible rfl)
   try simp only [Act.put,zA,z0,z1]
   refine wT (i:=4) (v:=.agg #[.int .i64 1,.string ⟨#[65,46,77,111,100]⟩,.string ⟨#[0]⟩,.int .i64 0,.int .i64 0,.int .i64 0]) rfl (by rfl) (fun X xb=>?_) ?_
   focus(have y0:X.cell? ⟨bc,0,none⟩=some (.int .i64 1):=cell_of_row _ _ _ _ _ _ xb;have y1:X.cell? ⟨bc,1,none⟩=some (.string ⟨#[65,46,77,111,100]⟩):=cell_of_row _ _ _ _ _ _ xb;have y2:X.cell? ⟨bc,2,none⟩=some (.string ⟨#[0]⟩):=cell_of_row _ _ _ _ _ _ xb;have y3:X.cell? ⟨bc,3,none⟩=some (.int .i64 0):=cell_of_row _ _ _ _ _ _ xb;have y4:X.cell? ⟨bc,4,none⟩=some (.int .i64 0):=cell_of_row _ _ _ _ _ _ xb;have y5:X.cell? ⟨bc,5,none⟩=some (.int .i64 0):=cell_of_row _ _ _ _ _ _ xb;clear xb;go_simp;try with_reducible rfl)
   try simp only [Act.put,zA,z0,z1]
   refine wE fun hS=>?_
   refine rd1 (i:=5) (by kernel_rfl) (.cons rfl (fun K hK=>?_) .nil)
   go_simp
   (go_at_call 28;(with_reducible refine(fdo_write _ _ HF1.out).mono ?_);rintro e w4 ⟨rfl,HOt⟩);have HC4:=hid (HOt.at HC1.out (show bc ≠ w.heap.size by omega));have HB4:=hid (Cn.below_oth HB1.out HOt (Nat.le_refl _) (by omega));have HO4:=hid (Cn.owns_oth HO1.out HOt (by omega));have HG4:=hid (HG0.out.below HB4.out);have hs4:=HOt.1;clear HOt HB1 HO1 HG1 HC1
   go_simp
   refine hK.out _ _ (fun _=>HC4.out) fun hS=>?_;clear hK K
   try simp only [Act.put,zA,z0,z1]
   refine rd1 (i:=6) (by kernel_rfl) (.cons rfl (fun K hK=>?_) .nil)
   go_simp
   (go_at_call 27;(with_reducible refine(answer_ok _).mono ?_);rintro e w5 ⟨rfl,g5,rfl⟩)
   go_simp
   refine hK.out _ _ (fun h=>absurd h (by simp [Fr.setAll])) fun hS=>?_;clear hK K
   try simp only [Act.put,zA,z0,z1]
   refine rd1 (i:=7) (by kernel_rfl) (.cons rfl (fun K hK=>?_) .nil)
   go_simp
   refine hK.out _ _ (fun h=>absurd h (by simp [Fr.setAll])) fun hS=>?_;clear hK K
   try simp only [Act.put,zA,z0,z1]
   refine rd1 (i:=8) (by kernel_rfl) (.cons rfl (fun K hK=>?_) .nil)
   rw [if_pos (by rfl)]
   refine Cn.wp_append_reads _ _ 40 rfl (w.heap.size+2) 9 i0 (.string ⟨#[]⟩) 1 16 Tryz.underlying40 hi hz0 hz1 hz2 rfl (by decide) _ 1 _ rfl (owns_kept' HO4.out ?_) _ 1 [.string ⟨#[111,107]⟩] rfl (reads_litq _ _ #[.string ⟨#[111,107]⟩] 9 1 1 (by decide) rfl ?_) ?_ ?_ ?_ ?_ ?_
   focus exact bT
   focus(first|rfl|omega|(simp;done)|(simp;omega)|(simp [more_size];done)|(simp [more_size];omega))
   focus(intro q hq;simp at hq;subst hq;rfl)
   focus(unfold maxLen;omega)
   focus omega
   focus(first|omega|(simp;omega)|(simp [more_size];omega))
   intro v' w9 hown' hgrow
   refine hK.out _ _ (fun h=>absurd h (by simp [Fr.setAll])) fun hS=>?_;clear hK K
   try simp only [Act.put,zA,z0,z1]
   refine tkM (n:=10) (is:=[9]) (k:=1) rfl (by kernel_rfl) hS ?_
   repeat(first|(refine wT (v:=?_) rfl (by rfl) (fun X hX=>?_) ?_;rotate_left 1;(focus(clear hX;go_simp;try with_reducible rfl))));try simp only [Act.put,zA,z0,z1]
   refine wE fun hS=>?_
   refine wpAnyG_done (by kernel_rfl) ?_ _;clear hS
   go_wp2
   have hr9:∀ k,Value.ownBlock _=some k→w.heap.size+2≤k:=owns_rows HO4.out
   have hb9:=below_grown (w0:=w) (base:=w.heap.size) (by have q:=HB4.out;exact bT) (by first|omega|(simp [more_size];omega)) hgrow (fun k hk=>by have:=hr9 k hk;omega)
   exact⟨⟨2,by omega,rfl,hid ⟨hown',hb9,fun h=>absurd h (by omega),by have:=hgrow.size;simp [more_size]at this;omega⟩⟩,by simp [intOf]⟩
  ·skip
   have d0:wr.cell? ⟨b,2,none⟩=some (.string ⟨#[119,104,97,116]⟩):=(World.cell?_of_block (H.out.bel.block b hb)).trans HC.out.2.2
   have hbl:b<wr.heap.size:=by omega
   clear H
   go_wp2_with (first|(go_at_call 8;(with_reducible refine(parse_what _ (HG.out.below bT)).mono ?_);rintro e w2 ⟨rfl,g2,rfl⟩)|(go_at_call 26;(with_reducible refine((fun u hu=>(by have h:=failed_at 60 (by omega) (by omega) u hu;rw [err60]at h;exact h:Calls Tryz.prog 26 #[.agg #[.int .i64 60,.int .i64 0]] u fun e w'=>e=.returned (.string ⟨#[101,114,114,111,114,32,54,48,32,97,116,32,48]⟩)∧∃ g,w'=more u g)) _ (HG.out.below bT)).mono ?_);rintro e w5 ⟨rfl,g5,rfl⟩)|(at_builtin;go_loud (refine wpList_append_reads rfl _ _ 40 rfl (w.heap.size+2) 9 i0 (.string ⟨#[]⟩) 1 16 Tryz.underlying40 hi hz0 hz1 hz2 rfl (by decide) _ 2 _ rfl (owns_kept' HO.out ?_) _ 1 [.string ⟨#[101,114,114,111,114,32,54,48,32,97,116,32,48]⟩] rfl (reads_litq _ _ #[.string ⟨#[101,114,114,111,114,32,54,48,32,97,116,32,48]⟩] 9 1 1 (by decide) rfl ?_) ?_ ?_ ?_ ?_ ?_;(focus(exact bT));(focus(first|rfl|omega|(simp;done)|(simp;omega)|(simp [more_size];done)|(simp [more_size];omega)));(focus(intro q hq;simp at hq;subst hq;rfl));(focus(unfold maxLen;omega));(focus omega);(focus(first|(simp;omega)|(simp [more_size];omega)|omega));intro v' w9 hown' hgrow)))
   have hr9:∀ k,Value.ownBlock _=some k→w.heap.size+2≤k:=owns_rows HO.out
   have hb9:=below_grown (w0:=w) (base:=w.heap.size) (by have q:=HB.out;exact bT) (by first|omega|(simp [more_size];omega)) hgrow (fun k hk=>by have:=hr9 k hk;omega)
   exact⟨⟨3,by omega,rfl,hid ⟨hown',hb9,fun h=>absurd h (by omega),by have:=hgrow.size;simp [more_size]at this;omega⟩⟩,by simp [intOf]⟩
  ·have HR:=hid (Reads.of_owns H.out.own)
   clear H
   go_wp2
   go_ret2
   exact⟨⟨_,rfl,HR.out⟩,more_of_below HB.out⟩
end Go.Proofs.YthkegfdijohpaaaGreatDoor
