/- The walks of the document's Dec and Hex,and a slice of bytes as a text. Conditions: numbers lie in their bounds. -/
import Derived.Test.YthkegfdijohpaaaGreatDoorAsR
import Derived.Test.YthkegfdijohpaaaGreatDoorAppendW
import Derived.Test.YthkegfdijohpaaaGreatDoorMoreX
import Derived.Test.YthkegfdijohpaaaGreatDoorChecked
import Derived.Laws.BytesArg
import Derived.Laws.BitsAllLaws
import Derived.Lib.ConvBytes
import Derived.BigQuiet
import Derived.Deep.QuietTactic
import Derived.Deep.RegionWith
import Derived.WalkLawsBesides
import Derived.WalkSpells
import Derived.Handy
import Derived.Lib.Hide
namespace Go.Proofs.YthkegfdijohpaaaGreatDoor
set_option linter.all false
open Go.Lib (hid)
set_option maxRecDepth 1000000
set_option maxHeartbeats 16000000
open Go.RowKit
namespace As
theorem sz(u:World)(o:Obj):(u.alloc o).heap.size=u.heap.size+1:=Array.size_push ..
end As
theorem owns_kept'{w w':World}{base:Nat}{e:TypeId}{size:Nat}{v:Value}{n:Nat}{xs:List Value}(h:w.ownsRow base e size v n xs)(hb:Below w.heap.size w w'):w'.ownsRow base e size v n xs:=
 h.kept (row:=none) ⟨hb.os,hb.tape,hb.output,hb.size,fun k hk _=>hb.block k hk⟩ (by cases hv:v.ownBlock <;> simp)
theorem reads_litq(w:World)(p:Nat)(cs:Array Value)(e:TypeId)(n size:Nat)(hm:n≤maxLen)(hs:cs.size=n * size)(hp:p=w.heap.size):Reads (w.alloc (.cells cs e)) (.slice (some ⟨p,0,none⟩) n n) n size cs.toList:=by
 subst hp;exact reads_lit w cs e n size hm hs
theorem convert_one(W:World)(b:Nat)(c:UInt8)(h:W.cell? ⟨b,0,none⟩=some (.int .u8 (c.toNat:Int))) :
  (convert 65 9 (.slice (some ⟨b,0,none⟩) 1 1)).run Tryz.prog W=.ok (.string ⟨#[c]⟩) W:=by
 have:=run_convert_bytes_arg (P:=Tryz.prog) W 65 5 Tryz.underlying65 Tryz.underlying5 b 0 1 1 [(c.toNat:Int)] rfl (fun j hj=>by
  have:j=0:=by omega
  subst this
  exact h) 9 Tryz.underlying9
 have hs:strOfNums [(c.toNat:Int)]=⟨#[c]⟩:=by
  unfold strOfNums
  simp
 rw [this,hs]
namespace Tk
theorem decN_small{n:Nat}(h:n<10):decN n=[UInt8.ofNat (48+n)]:=by rw [decN,dif_pos h]
theorem decN_big{n:Nat}(h:¬ n<10):decN n=decN (n / 10)++[UInt8.ofNat (48+n % 10)]:=by rw [decN,dif_neg h]
theorem dec_byte(d:Nat)(h:d<10):((UInt8.ofNat (48+d)).toNat:Int)=48+(d:Int):=by
 have:d=0∨d=1∨d=2∨d=3∨d=4∨d=5∨d=6∨d=7∨d=8∨d=9:=by omega
 rcases this with rfl|rfl|rfl|rfl|rfl|rfl|rfl|rfl|rfl|rfl <;> rfl
theorem decN_le(n:Nat):(decN n).length≤n+1:=by
 induction n using Nat.strongRecOn with
 | _ n ih =>
  by_cases h:n<10
  ·rw [decN_small h];simp
  ·rw [decN_big h]
   have:=ih (n / 10) (by omega)
   simp;omega
end Tk
theorem rdecn_any(n:Nat):n<9223372036854775808→∀ w:World,Calls Tryz.prog 24 #[.int .i64 n] w fun e w'=>e=.returned (.string ⟨(Tk.decN n).toArray⟩)∧∃ g,w'=more w g:=by
 induction n using Nat.strongRecOn with
 | _ n ih =>
  intro hn w
  obtain⟨z,hz⟩:∃ z:Int,z=n:=⟨_,rfl⟩
  rw [← hz]
  have z0:0≤z:=by omega
  by_cases h:n<10
  ·have z1:z<10:=by omega
   have hb:=Tk.dec_byte n h
   rw [← hz]at hb
   rw [Tk.decN_small h]
   generalize UInt8.ofNat (48+n)=c at *
   have hcv:=convert_one (w.alloc (.cells #[.int .u8 (48+z)] 5)) w.heap.size c (by rw [hb];simp [go_sem])
   clear hz h ih hn hb
   go_enter Tryz.func24,Tryz.ntmps24
   go_wp2
   go_ret
   exact⟨rfl,more_of_below bT⟩
  ·have z1:10≤z:=by omega
   have IH:=hid (fun W=>ih (n / 10) (by omega) (by omega) W)
   have hq:z.tdiv 10=((n / 10:Nat):Int):=by rw [hz];rfl
   have hr:z.tmod 10=((n % 10:Nat):Int):=by rw [hz];rfl
   have hb:=Tk.dec_byte (n % 10) (by omega)
   have hd:n % 10<10:=Nat.mod_lt _ (by decide)
   have HD:=hid (show(⟨(Tk.decN n).toArray⟩:ByteArray)=⟨(Tk.decN (n / 10)).toArray⟩++⟨#[UInt8.ofNat (48+n % 10)]⟩by
    rw [Tk.decN_big h];apply ByteArray.ext;simp [ByteArray.data_append])
   have hl:(⟨(Tk.decN (n / 10)).toArray⟩:ByteArray).size≤n / 10+1:=by show(Tk.decN (n / 10)).toArray.size≤_;simpa using Tk.decN_le (n / 10)
   have hq1:n / 10≤922337203685477580:=by omega
   generalize n / 10=q at *
   generalize n % 10=r at *
   generalize UInt8.ofNat (48+r)=c at *
   generalize (⟨(Tk.decN q).toArray⟩:ByteArray)=D at *
   have hD:(D.size:Int)≤922337203685477581:=by omega
   obtain⟨zq,hzq⟩:∃ zq:Int,zq=(q:Int):=⟨_,rfl⟩
   obtain⟨zr,hzr⟩:∃ zr:Int,zr=(r:Int):=⟨_,rfl⟩
   rw [← hzq]at hq IH
   rw [← hzr]at hr hb
   have q0:0≤zq:=by omega
   have q1:zq≤922337203685477580:=by omega
   have r0:0≤zr:=by omega
   have r1:zr<10:=by omega
   have hw1:IntKind.i64.wrap zq=zq:=by rw [IntKind.wrap_i64];omega
   have hw2:IntKind.i64.wrap (48+zr)=48+zr:=by rw [IntKind.wrap_i64];omega
   have hw3:IntKind.u8.wrap (48+zr)=48+zr:=by rw [IntKind.wrap_u8];omega
   have hcv:=fun W b=>convert_one W b c
   rw [hb]at hcv
   clear hz h ih hb hzq hzr hd hl hq1 hn
   go_enter Tryz.func24,Tryz.ntmps24
   go_wp2_with fail
   go_region_with (go_at_call 24;(with_reducible refine(IH.out _).mono ?_);rintro e w2 ⟨rfl,g,rfl⟩)
   all_goals first
    | (exfalso;omega)
    | (go_wp2;go_ret;exact⟨by rw [HD.out];rfl,more_of_below bT⟩)

theorem rdec_itoa(n:Int)(h0 : -9223372036854775808<n)(h1:n<9223372036854775808)(w:World):Calls Tryz.prog 24 #[.int .i64 n] w fun e w'=>e=.returned (.string ⟨(Lib.itoa n).toArray⟩)∧∃ g,w'=more w g:=by
 by_cases h:n<0
 ·obtain⟨m,hm⟩:∃ m:Nat,-n=m:=⟨(-n).toNat,by omega⟩
  have HR:=hid (fun W=>rdecn_any m (by omega) W)
  have HS:=hid (show(⟨(Lib.itoa n).toArray⟩:ByteArray)=⟨#[45]⟩++⟨(Tk.decN m).toArray⟩by
   rw [As.itoa_neg h,show(-n).toNat=m by omega];apply ByteArray.ext;simp [ByteArray.data_append])
  have hl:(⟨(Tk.decN m).toArray⟩:ByteArray).size≤m+1:=by show(Tk.decN m).toArray.size≤_;simpa using Tk.decN_le m
  have hd:(((⟨(Tk.decN m).toArray⟩:ByteArray).size:Nat):Int)≤19:=by
   have h2:(Tk.decN m).length≤19:=Tk.decN_len m 18 (by omega)
   show(((Tk.decN m).toArray.size:Nat):Int)≤_
   simp;omega
  rw [HS.out]
  generalize (⟨(Tk.decN m).toArray⟩:ByteArray)=D at *
  clear HS hl
  have hD:(D.size:Int)≤19:=hd
  have hneg:IntKind.i64.wrap (-n) = -n:=by rw [IntKind.wrap_i64];omega
  have hm0:=hid hm
  clear hd hm
  obtain⟨z,hz⟩:∃ z:Int,z = -n:=⟨_,rfl⟩
  have hzm:=hid (show z=(m:Int)by rw [hz];exact hm0.out)
  rw [← hz]at hneg
  have hnz:=hid hz
  clear hz
  have HR2:=hid (show ∀ W:World,Calls Tryz.prog 24 #[.int .i64 (-n)] W fun e w'=>e=.returned (.string D)∧∃ g,w'=more W g from fun W=>by rw [hm0.out];exact HR.out W)
  clear HR hneg
  have hw:IntKind.i64.wrap (-n) = -n:=by rw [IntKind.wrap_i64];omega
  go_enter Tryz.func24,Tryz.ntmps24
  go_wp2_with (go_at_call 24;(with_reducible refine(HR2.out _).mono ?_);rintro e w2 ⟨rfl,g,rfl⟩)
  go_ret
  exact⟨rfl,more_of_below bT⟩
 ·obtain⟨m,rfl⟩:=Int.eq_ofNat_of_zero_le (show 0≤n by omega)
  rw [As.itoa_pos (by omega)]
  exact rdecn_any m (by omega) w
namespace As
def bcell(l:List UInt8):List Value:=l.map fun c=>Value.int .u8 (c.toNat:Int)
abbrev digs16:ByteArray:=⟨#[48,49,50,51,52,53,54,55,56,57,97,98,99,100,101,102]⟩
theorem digs16_at(d:Nat)(h:d<16)(h2:d<digs16.size):digs16[d]'h2=lx d:=by
 have:∀ d:Fin 16,digs16[d.1]'(by exact d.2)=lx d.1:=by decide
 exact this ⟨d,h⟩
theorem hexK_next(k:Nat)(q:Int)(D:Nat)(hD:(D:Int)=q % 16):bcell (hexK (k+1) q)=bcell (hexK k (q / 16))++[.int .u8 ((lx D).toNat:Int)]:=by
 have:(q % 16).toNat=D:=by omega
 simp [hexK,bcell,this]
def hx(k:Nat)(z:Int):List Value:=bcell (hexK k (z / 16 ^ (8 - k)))
end As
theorem convert_reads{W:World}{b off:Nat}{l:List UInt8}(cap:Nat)(h:∀ j u,(As.bcell l)[j]?=some u→W.cell? ⟨b,off+j,none⟩=some u) :
  (convert 65 9 (.slice (some ⟨b,off,none⟩) l.length cap)).run Tryz.prog W=.ok (.string ⟨l.toArray⟩) W:=by
 have:=run_convert_bytes_arg (P:=Tryz.prog) W 65 5 Tryz.underlying65 Tryz.underlying5 b off l.length cap (l.map fun c=>(c.toNat:Int)) (by simp) (fun j hj=>?_) 9 Tryz.underlying9
 ·have hs:strOfNums (l.map fun c=>(c.toNat:Int))=⟨l.toArray⟩:=by
   apply ByteArray.ext
   have hm:(l.map fun c=>(c.toNat:Int)).map (fun n=>UInt8.ofNat n.toNat)=l:=by
    rw [List.map_map]
    conv=>rhs;rw [← List.map_id l]
    refine List.map_congr_left fun c _=>?_
    simp
   show(((l.map fun c=>(c.toNat:Int)).map (fun n=>UInt8.ofNat n.toNat)).toArray:Array UInt8)=l.toArray
   rw [hm]
  rw [this,hs]
 ·exact h j _ (by simp [As.bcell,hj,List.getD])
theorem info_byte:(Tryz.prog.info? 5).map (fun i=>(i.zero,i.size,i.bytes))=some (some (.int .u8 0),1,1):=by kernel_rfl
theorem rhex8_any(z:Int)(h0:0≤z)(h1:z<4294967296)(w:World) :
  Calls Tryz.prog 37 #[.int .u32 z] w fun e w'=>e=.returned (.string ⟨(As.hex8 z).toArray⟩)∧∃ g,w'=more w g:=by
 obtain⟨i0,hi,hz0,hz1,hz2⟩:=info_parts info_byte
 have hdig:=fun(d:Nat) (h:d<16)=>As.digs16_at d h
 replace hdig:=hid hdig
 go_enter Tryz.func37,Tryz.ntmps37
 go_wp2
 go_loopw [3,4] (fun v i wr=>∃ k:Nat,k≤8∧i=.int .i64 (7 - (k:Int))∧Hid (wr.ownsRow w.heap.size 5 1 v k (As.hx k z))∧Hid (Below w.heap.size w wr)) (fun _ i _=>(intOf i+1).toNat)
 case atStart=>exact⟨0,by omega,rfl,hid (by unfold As.hx;exact World.ownsRow_nil _ _ _ _),hid (Below.refl _ _)⟩
 case round =>
  obtain⟨k,hk,rfl,HO,HB⟩:=hrel
  have hsz:=HB.out.size
  by_cases hlt:k<8
  ·have h8:k=0∨k=1∨k=2∨k=3∨k=4∨k=5∨k=6∨k=7:=by omega
   rcases h8 with rfl|rfl|rfl|rfl|rfl|rfl|rfl|rfl
   ·obtain⟨D,hD⟩:∃ D:Nat,(D:Int)=z / 268435456 % 16:=⟨(z / 268435456 % 16).toNat,by omega⟩
    have hand:bits .and .u32 (z / 268435456) 15=(D:Int):=by
     rw [hD]
     have:=u32_and (z / 268435456) 15 (by omega) (by omega) (by decide) (by decide)
     rw [show(15:Int).toNat=2 ^ 4 - 1 from rfl,Nat.and_two_pow_sub_one_eq_mod]at this
     omega
    have hD16:D<16:=by omega
    have hDi:(D:Int)<16:=by omega
    have hdk:=hdig.out D hD16
    have HN:=hid (show As.hx 1 z=As.hx 0 z++[.int .u8 ((As.lx D).toNat:Int)]by
     have h:=As.hexK_next 0 (z / 268435456) D hD
     have e1:z / 16 ^ (8 - 1)=z / 268435456:=by simp
     have e2:z / 16 ^ (8 - 0)=z / 268435456 / 16:=by simp;omega
     unfold As.hx;rw [e1,e2];exact h)
    clear hD
    generalize As.lx D=C at *
    go_wp2_with (at_builtin;refine wpList_append_reads rfl _ _ 65 rfl w.heap.size 5 i0 (.int .u8 0) 1 1 Tryz.underlying65 hi hz0 hz1 hz2 rfl (by decide) u3 0 _ rfl (owns_kept' HO.out ?_) _ 1 [.int .u8 (C.toNat:Int)] rfl (reads_litq _ _ #[.int .u8 (C.toNat:Int)] 5 1 1 (by decide) rfl ?_) ?_ ?_ ?_ ?_ ?_;(focus(exact bT));(focus(simp;done));(focus(intro q hq;simp at hq;subst hq;rfl));(focus(unfold maxLen;omega));(focus omega);(focus(simp;omega));intro v' w1 hown' hgrow)
    refine⟨⟨1,by omega,by simp,hid (HN.out ▸ hown'),hid (below_grown (HB.out.alloc hsz _) (by rw [As.sz];omega) hgrow (owns_rows HO.out))⟩,by simp [intOf]⟩
   ·obtain⟨D,hD⟩:∃ D:Nat,(D:Int)=z / 16777216 % 16:=⟨(z / 16777216 % 16).toNat,by omega⟩
    have hand:bits .and .u32 (z / 16777216) 15=(D:Int):=by
     rw [hD]
     have:=u32_and (z / 16777216) 15 (by omega) (by omega) (by decide) (by decide)
     rw [show(15:Int).toNat=2 ^ 4 - 1 from rfl,Nat.and_two_pow_sub_one_eq_mod]at this
     omega
    have hD16:D<16:=by omega
    have hDi:(D:Int)<16:=by omega
    have hdk:=hdig.out D hD16
    have HN:=hid (show As.hx 2 z=As.hx 1 z++[.int .u8 ((As.lx D).toNat:Int)]by
     have h:=As.hexK_next 1 (z / 16777216) D hD
     have e1:z / 16 ^ (8 - 2)=z / 16777216:=by simp
     have e2:z / 16 ^ (8 - 1)=z / 16777216 / 16:=by simp;omega
     unfold As.hx;rw [e1,e2];exact h)
    clear hD
    generalize As.lx D=C at *
    go_wp2_with (at_builtin;refine wpList_append_reads rfl _ _ 65 rfl w.heap.size 5 i0 (.int .u8 0) 1 1 Tryz.underlying65 hi hz0 hz1 hz2 rfl (by decide) u3 1 _ rfl (owns_kept' HO.out ?_) _ 1 [.int .u8 (C.toNat:Int)] rfl (reads_litq _ _ #[.int .u8 (C.toNat:Int)] 5 1 1 (by decide) rfl ?_) ?_ ?_ ?_ ?_ ?_;(focus(exact bT));(focus(simp;done));(focus(intro q hq;simp at hq;subst hq;rfl));(focus(unfold maxLen;omega));(focus omega);(focus(simp;omega));intro v' w1 hown' hgrow)
    refine⟨⟨2,by omega,by simp,hid (HN.out ▸ hown'),hid (below_grown (HB.out.alloc hsz _) (by rw [As.sz];omega) hgrow (owns_rows HO.out))⟩,by simp [intOf]⟩
   ·obtain⟨D,hD⟩:∃ D:Nat,(D:Int)=z / 1048576 % 16:=⟨(z / 1048576 % 16).toNat,by omega⟩
    have hand:bits .and .u32 (z / 1048576) 15=(D:Int):=by
     rw [hD]
     have:=u32_and (z / 1048576) 15 (by omega) (by omega) (by decide) (by decide)
     rw [show(15:Int).toNat=2 ^ 4 - 1 from rfl,Nat.and_two_pow_sub_one_eq_mod]at this
     omega
    have hD16:D<16:=by omega
    have hDi:(D:Int)<16:=by omega
    have hdk:=hdig.out D hD16
    have HN:=hid (show As.hx 3 z=As.hx 2 z++[.int .u8 ((As.lx D).toNat:Int)]by
     have h:=As.hexK_next 2 (z / 1048576) D hD
     have e1:z / 16 ^ (8 - 3)=z / 1048576:=by simp
     have e2:z / 16 ^ (8 - 2)=z / 1048576 / 16:=by simp;omega
     unfold As.hx;rw [e1,e2];exact h)
    clear hD
    generalize As.lx D=C at *
    go_wp2_with (at_builtin;refine wpList_append_reads rfl _ _ 65 rfl w.heap.size 5 i0 (.int .u8 0) 1 1 Tryz.underlying65 hi hz0 hz1 hz2 rfl (by decide) u3 2 _ rfl (owns_kept' HO.out ?_) _ 1 [.int .u8 (C.toNat:Int)] rfl (reads_litq _ _ #[.int .u8 (C.toNat:Int)] 5 1 1 (by decide) rfl ?_) ?_ ?_ ?_ ?_ ?_;(focus(exact bT));(focus(simp;done));(focus(intro q hq;simp at hq;subst hq;rfl));(focus(unfold maxLen;omega));(focus omega);(focus(simp;omega));intro v' w1 hown' hgrow)
    refine⟨⟨3,by omega,by simp,hid (HN.out ▸ hown'),hid (below_grown (HB.out.alloc hsz _) (by rw [As.sz];omega) hgrow (owns_rows HO.out))⟩,by simp [intOf]⟩
   ·obtain⟨D,hD⟩:∃ D:Nat,(D:Int)=z / 65536 % 16:=⟨(z / 65536 % 16).toNat,by omega⟩
    have hand:bits .and .u32 (z / 65536) 15=(D:Int):=by
     rw [hD]
     have:=u32_and (z / 65536) 15 (by omega) (by omega) (by decide) (by decide)
     rw [show(15:Int).toNat=2 ^ 4 - 1 from rfl,Nat.and_two_pow_sub_one_eq_mod]at this
     omega
    have hD16:D<16:=by omega
    have hDi:(D:Int)<16:=by omega
    have hdk:=hdig.out D hD16
    have HN:=hid (show As.hx 4 z=As.hx 3 z++[.int .u8 ((As.lx D).toNat:Int)]by
     have h:=As.hexK_next 3 (z / 65536) D hD
     have e1:z / 16 ^ (8 - 4)=z / 65536:=by simp
     have e2:z / 16 ^ (8 - 3)=z / 65536 / 16:=by simp;omega
     unfold As.hx;rw [e1,e2];exact h)
    clear hD
    generalize As.lx D=C at *
    go_wp2_with (at_builtin;refine wpList_append_reads rfl _ _ 65 rfl w.heap.size 5 i0 (.int .u8 0) 1 1 Tryz.underlying65 hi hz0 hz1 hz2 rfl (by decide) u3 3 _ rfl (owns_kept' HO.out ?_) _ 1 [.int .u8 (C.toNat:Int)] rfl (reads_litq _ _ #[.int .u8 (C.toNat:Int)] 5 1 1 (by decide) rfl ?_) ?_ ?_ ?_ ?_ ?_;(focus(exact bT));(focus(simp;done));(focus(intro q hq;simp at hq;subst hq;rfl));(focus(unfold maxLen;omega));(focus omega);(focus(simp;omega));intro v' w1 hown' hgrow)
    refine⟨⟨4,by omega,by simp,hid (HN.out ▸ hown'),hid (below_grown (HB.out.alloc hsz _) (by rw [As.sz];omega) hgrow (owns_rows HO.out))⟩,by simp [intOf]⟩
   ·obtain⟨D,hD⟩:∃ D:Nat,(D:Int)=z / 4096 % 16:=⟨(z / 4096 % 16).toNat,by omega⟩
    have hand:bits .and .u32 (z / 4096) 15=(D:Int):=by
     rw [hD]
     have:=u32_and (z / 4096) 15 (by omega) (by omega) (by decide) (by decide)
     rw [show(15:Int).toNat=2 ^ 4 - 1 from rfl,Nat.and_two_pow_sub_one_eq_mod]at this
     omega
    have hD16:D<16:=by omega
    have hDi:(D:Int)<16:=by omega
    have hdk:=hdig.out D hD16
    have HN:=hid (show As.hx 5 z=As.hx 4 z++[.int .u8 ((As.lx D).toNat:Int)]by
     have h:=As.hexK_next 4 (z / 4096) D hD
     have e1:z / 16 ^ (8 - 5)=z / 4096:=by simp
     have e2:z / 16 ^ (8 - 4)=z / 4096 / 16:=by simp;omega
     unfold As.hx;rw [e1,e2];exact h)
    clear hD
    generalize As.lx D=C at *
    go_wp2_with (at_builtin;refine wpList_append_reads rfl _ _ 65 rfl w.heap.size 5 i0 (.int .u8 0) 1 1 Tryz.underlying65 hi hz0 hz1 hz2 rfl (by decide) u3 4 _ rfl (owns_kept' HO.out ?_) _ 1 [.int .u8 (C.toNat:Int)] rfl (reads_litq _ _ #[.int .u8 (C.toNat:Int)] 5 1 1 (by decide) rfl ?_) ?_ ?_ ?_ ?_ ?_;(focus(exact bT));(focus(simp;done));(focus(intro q hq;simp at hq;subst hq;rfl));(focus(unfold maxLen;omega));(focus omega);(focus(simp;omega));intro v' w1 hown' hgrow)
    refine⟨⟨5,by omega,by simp,hid (HN.out ▸ hown'),hid (below_grown (HB.out.alloc hsz _) (by rw [As.sz];omega) hgrow (owns_rows HO.out))⟩,by simp [intOf]⟩
   ·obtain⟨D,hD⟩:∃ D:Nat,(D:Int)=z / 256 % 16:=⟨(z / 256 % 16).toNat,by omega⟩
    have hand:bits .and .u32 (z / 256) 15=(D:Int):=by
     rw [hD]
     have:=u32_and (z / 256) 15 (by omega) (by omega) (by decide) (by decide)
     rw [show(15:Int).toNat=2 ^ 4 - 1 from rfl,Nat.and_two_pow_sub_one_eq_mod]at this
     omega
    have hD16:D<16:=by omega
    have hDi:(D:Int)<16:=by omega
    have hdk:=hdig.out D hD16
    have HN:=hid (show As.hx 6 z=As.hx 5 z++[.int .u8 ((As.lx D).toNat:Int)]by
     have h:=As.hexK_next 5 (z / 256) D hD
     have e1:z / 16 ^ (8 - 6)=z / 256:=by simp
     have e2:z / 16 ^ (8 - 5)=z / 256 / 16:=by simp;omega
     unfold As.hx;rw [e1,e2];exact h)
    clear hD
    generalize As.lx D=C at *
    go_wp2_with (at_builtin;refine wpList_append_reads rfl _ _ 65 rfl w.heap.size 5 i0 (.int .u8 0) 1 1 Tryz.underlying65 hi hz0 hz1 hz2 rfl (by decide) u3 5 _ rfl (owns_kept' HO.out ?_) _ 1 [.int .u8 (C.toNat:Int)] rfl (reads_litq _ _ #[.int .u8 (C.toNat:Int)] 5 1 1 (by decide) rfl ?_) ?_ ?_ ?_ ?_ ?_;(focus(exact bT));(focus(simp;done));(focus(intro q hq;simp at hq;subst hq;rfl));(focus(unfold maxLen;omega));(focus omega);(focus(simp;omega));intro v' w1 hown' hgrow)
    refine⟨⟨6,by omega,by simp,hid (HN.out ▸ hown'),hid (below_grown (HB.out.alloc hsz _) (by rw [As.sz];omega) hgrow (owns_rows HO.out))⟩,by simp [intOf]⟩
   ·obtain⟨D,hD⟩:∃ D:Nat,(D:Int)=z / 16 % 16:=⟨(z / 16 % 16).toNat,by omega⟩
    have hand:bits .and .u32 (z / 16) 15=(D:Int):=by
     rw [hD]
     have:=u32_and (z / 16) 15 (by omega) (by omega) (by decide) (by decide)
     rw [show(15:Int).toNat=2 ^ 4 - 1 from rfl,Nat.and_two_pow_sub_one_eq_mod]at this
     omega
    have hD16:D<16:=by omega
    have hDi:(D:Int)<16:=by omega
    have hdk:=hdig.out D hD16
    have HN:=hid (show As.hx 7 z=As.hx 6 z++[.int .u8 ((As.lx D).toNat:Int)]by
     have h:=As.hexK_next 6 (z / 16) D hD
     have e1:z / 16 ^ (8 - 7)=z / 16:=by simp
     have e2:z / 16 ^ (8 - 6)=z / 16 / 16:=by simp;omega
     unfold As.hx;rw [e1,e2];exact h)
    clear hD
    generalize As.lx D=C at *
    go_wp2_with (at_builtin;refine wpList_append_reads rfl _ _ 65 rfl w.heap.size 5 i0 (.int .u8 0) 1 1 Tryz.underlying65 hi hz0 hz1 hz2 rfl (by decide) u3 6 _ rfl (owns_kept' HO.out ?_) _ 1 [.int .u8 (C.toNat:Int)] rfl (reads_litq _ _ #[.int .u8 (C.toNat:Int)] 5 1 1 (by decide) rfl ?_) ?_ ?_ ?_ ?_ ?_;(focus(exact bT));(focus(simp;done));(focus(intro q hq;simp at hq;subst hq;rfl));(focus(unfold maxLen;omega));(focus omega);(focus(simp;omega));intro v' w1 hown' hgrow)
    refine⟨⟨7,by omega,by simp,hid (HN.out ▸ hown'),hid (below_grown (HB.out.alloc hsz _) (by rw [As.sz];omega) hgrow (owns_rows HO.out))⟩,by simp [intOf]⟩
   ·obtain⟨D,hD⟩:∃ D:Nat,(D:Int)=z % 16:=⟨(z % 16).toNat,by omega⟩
    have hand:bits .and .u32 (z) 15=(D:Int):=by
     rw [hD]
     have:=u32_and (z) 15 (by omega) (by omega) (by decide) (by decide)
     rw [show(15:Int).toNat=2 ^ 4 - 1 from rfl,Nat.and_two_pow_sub_one_eq_mod]at this
     omega
    have hD16:D<16:=by omega
    have hDi:(D:Int)<16:=by omega
    have hdk:=hdig.out D hD16
    have HN:=hid (show As.hx 8 z=As.hx 7 z++[.int .u8 ((As.lx D).toNat:Int)]by
     have h:=As.hexK_next 7 (z) D hD
     have e1:z / 16 ^ (8 - 8)=z:=by simp
     have e2:z / 16 ^ (8 - 7)=z / 16:=by simp
     unfold As.hx;rw [e1,e2];exact h)
    clear hD
    generalize As.lx D=C at *
    go_wp2_with (at_builtin;refine wpList_append_reads rfl _ _ 65 rfl w.heap.size 5 i0 (.int .u8 0) 1 1 Tryz.underlying65 hi hz0 hz1 hz2 rfl (by decide) u3 7 _ rfl (owns_kept' HO.out ?_) _ 1 [.int .u8 (C.toNat:Int)] rfl (reads_litq _ _ #[.int .u8 (C.toNat:Int)] 5 1 1 (by decide) rfl ?_) ?_ ?_ ?_ ?_ ?_;(focus(exact bT));(focus(simp;done));(focus(intro q hq;simp at hq;subst hq;rfl));(focus(unfold maxLen;omega));(focus omega);(focus(simp;omega));intro v' w1 hown' hgrow)
    refine⟨⟨8,by omega,by simp,hid (HN.out ▸ hown'),hid (below_grown (HB.out.alloc hsz _) (by rw [As.sz];omega) hgrow (owns_rows HO.out))⟩,by simp [intOf]⟩
  ·have hk8:k=8:=by omega
   subst hk8
   have hown:=HO.out
   have hx8:As.hx 8 z=As.bcell (As.hex8 z):=by unfold As.hx As.hex8;simp
   rw [hx8]at hown
   have hl8:(As.hex8 z).length=8:=As.hexK_len 8 z
   rcases(Reads.of_owns hown).2 with⟨h,_⟩|⟨b,off,cap,hv,_,_,_,hc⟩
   ·omega
   subst hv
   have hcv:=convert_reads (W:=wr) (b:=b) (off:=off) cap hc
   rw [hl8]at hcv
   clear hc hown HO hx8 hl8 hlt hk
   go_wp2
   go_ret
   exact⟨rfl,more_of_below HB.out⟩
namespace As
theorem conv_own{W:World}{base:Nat}{v:Value}{l:List UInt8}(h:W.ownsRow base 5 1 v l.length (bcell l)) :
  (convert 65 9 v).run Tryz.prog W=.ok (.string ⟨l.toArray⟩) W:=by
 rcases h.2 with⟨rfl,h0⟩|⟨g,cap,cur,rfl,-,hg,hn,hm,-⟩
 ·have:l=[]:=List.length_eq_zero_iff.1 h0
  subst this
  exact run_convert_bytes_nil W 65 5 Tryz.underlying65 Tryz.underlying5 0 0 9 Tryz.underlying9
 ·have hc:=h.cells (g:=g) rfl
  exact convert_reads cap (fun j u hu=>by
   have h2:=hc j u hu
   unfold Addr.add at h2
   split at h2
   ·rename_i h3;subst h3;simpa using h2
   ·simpa using h2)
end As
end Go.Proofs.YthkegfdijohpaaaGreatDoor
