/- The walk of console's words: a line,cut at its blanks,whatever bytes it has. Conditions: the line's size is bounded. -/
import Derived.Test.YthkegfdijohpaaaGreatDoorCnP
import Derived.Test.YthkegfdijohpaaaGreatDoorAppendW
import Derived.Test.YthkegfdijohpaaaGreatDoorMoreX
import Derived.Test.YthkegfdijohpaaaGreatDoorChecked
import Derived.Lib.OthersKept
import Derived.Lib.SpaceUEq
import Derived.WalkSmall
import Derived.BigQuiet
import Derived.Deep.QuietTactic
import Derived.Handy
import Derived.Lib.Hide
namespace Go.Proofs.YthkegfdijohpaaaGreatDoor
set_option linter.all false
open Go.Lib (hid)
set_option maxRecDepth 1000000
set_option maxHeartbeats 16000000
open Go.RowKit
namespace Cn
def sv(l:List UInt8):Value:=.string ⟨l.toArray⟩
def svs(l:List (List UInt8)):List Value:=l.map sv
theorem inner(s:ByteArray)(pos:Nat)(h:pos<s.size):pos+(Utf8.decode s pos).2≤s.size∧∀ j,1≤j→j<(Utf8.decode s pos).2→s.data.toList[pos+j]? ≠ some 32:=by
 have hsl:s.data.toList.length=s.size:=by simp
 have hc:=Lib.decodeN_conts (s.data.toList.length - pos) (s.data.toList.getD pos 0).toNat (s.data.toList.getD (pos+1) 0).toNat (s.data.toList.getD (pos+2) 0).toNat (s.data.toList.getD (pos+3) 0).toNat
 rw [← Lib.decode_N]at hc
 obtain⟨c2,c3,c4,c5⟩:=hc
 have hw:=Lib.width_pos s pos
 have hk:∀ i,s.data.toList[i]?=some 32→(s.data.toList.getD i 0).toNat / 64=2→False:=fun i h1 h2=>by
  rw [List.getD_eq_getElem?_getD,h1]at h2
  simp at h2
 refine⟨by omega,fun j h1 h2 h3=>?_⟩
 have hj:j=1∨j=2∨j=3:=by omega
 rcases hj with rfl|rfl|rfl
 ·exact hk _ h3 (c2 (by omega)).1
 ·exact hk _ h3 (c3 (by omega)).1
 ·exact hk _ h3 (c4 (by omega)).1
structure WSt(s:ByteArray)(w wr:World)(bi:Nat)(pos f:Nat)(ws:List (List UInt8))(v:Value):Prop where
 it:wr.heap[bi]?=some (.stringIter s pos)
 bel:Below bi w wr
 cut:cutW s.data.toList=ws++cutW (s.data.toList.drop f)
 fp:f≤pos
 ps:pos≤s.size
 no:(32:UInt8) ∉ (s.data.toList.drop f).take (pos - f)
 own:wr.ownsRow (bi+1) 9 1 v ws.length (svs ws)
theorem no_blank{s:ByteArray}{f pos K:Nat}(hfp:f≤pos)(hps:pos+K≤s.size)(hno:(32:UInt8) ∉ (s.data.toList.drop f).take (pos - f))(h0:∀ j,j<K→s.data.toList[pos+j]? ≠ some 32):(32:UInt8) ∉ (s.data.toList.drop f).take (pos+K - f):=by
 intro hm
 obtain⟨i,hi,he⟩:=List.getElem_of_mem hm
 have hi2:i<pos+K - f:=by simp at hi;omega
 have he2:s.data.toList[f+i]?=some 32:=by
  rw [List.getElem_take,List.getElem_drop]at he
  rw [← he]
  exact List.getElem?_eq_getElem _
 by_cases h:i<pos - f
 ·refine hno ?_
  have h3:((s.data.toList.drop f).take (pos - f))[i]?=some 32:=by
   rw [List.getElem?_take,if_pos h,List.getElem?_drop];exact he2
  exact List.mem_of_getElem? h3
 ·refine h0 (f+i - pos) (by omega) ?_
  rw [show pos+(f+i - pos)=f+i by omega]
  exact he2
theorem cut_here{s:ByteArray}{f pos:Nat}{ws:List (List UInt8)}(hfp:f≤pos)(hps:pos<s.size)(hno:(32:UInt8) ∉ (s.data.toList.drop f).take (pos - f))(h32:s.data.toList[pos]?=some 32)(hc:cutW s.data.toList=ws++cutW (s.data.toList.drop f)) :
  cutW s.data.toList=(ws++[(s.data.toList.drop f).take (pos - f)])++cutW (s.data.toList.drop (pos+1)):=by
 have h1:s.data.toList.drop f=(s.data.toList.drop f).take (pos - f)++32::s.data.toList.drop (pos+1):=by
  conv=>lhs;rw [← List.take_append_drop (pos - f) (s.data.toList.drop f)]
  obtain⟨hl,hg⟩:=List.getElem?_eq_some_iff.1 h32
  rw [List.drop_drop,show f+(pos - f)=pos by omega,List.drop_eq_getElem_cons hl,hg]
 rw [hc]
 conv=>lhs;rw [h1]
 rw [cutW_at _ _ hno]
 simp
theorem ext_sv(s:ByteArray)(f i:Nat):sv ((s.data.toList.drop f).take (i - f))=.string (s.extract f i):=by
 unfold sv
 congr 1
 apply ByteArray.ext
 apply Array.ext'
 simp [List.drop_take]
theorem owns_kept{w w':World}{base:Nat}{e:TypeId}{size:Nat}{v:Value}{n:Nat}{xs:List Value}(h:w.ownsRow base e size v n xs)(hb:Below w.heap.size w w'):w'.ownsRow base e size v n xs:=
 h.kept (row:=none) ⟨hb.os,hb.tape,hb.output,hb.size,fun k hk _=>hb.block k hk⟩ (by cases hv:v.ownBlock <;> simp)
theorem reads_litq(w:World)(p:Nat)(cs:Array Value)(e:TypeId)(n size:Nat)(hm:n≤maxLen)(hs:cs.size=n * size)(hp:p=w.heap.size):Reads (w.alloc (.cells cs e)) (.slice (some ⟨p,0,none⟩) n n) n size cs.toList:=by
 subst hp;exact reads_lit w cs e n size hm hs
theorem owns_form{w:World}{base:Nat}{e:TypeId}{size:Nat}{v:Value}{n:Nat}{xs:List Value}(h:w.ownsRow base e size v n xs):∃ a c,v=.slice a n c:=by
 rcases h.2 with⟨rfl,rfl⟩|⟨g,cap,cur,rfl,_⟩
 ·exact⟨none,0,rfl⟩
 ·exact⟨_,_,rfl⟩
end Cn
theorem Cn.info_s:(Tryz.prog.info? 9).map (fun i=>(i.zero,i.size,i.bytes))=some (some (.string ⟨#[]⟩),1,16):=by kernel_rfl
theorem words_any(s:ByteArray)(w:World)(hmax:s.size≤1000000) :
  Calls Tryz.prog 16 #[.string s] w fun e w'=>(∃ v,e=.returned v∧Reads w' v (Cn.cutW s.data.toList).length 1 (Cn.svs (Cn.cutW s.data.toList)))∧∃ g,w'=more w g:=by
 obtain⟨i0,hi,hz0,hz1,hz2⟩:=info_parts Cn.info_s
 have hmi:(s.size:Int)≤1000000:=by omega
 have hsl:=hid (show s.data.toList.length=s.size by simp)
 have HWl:=hid (show ∀ l:List UInt8,(Cn.cutW l).length≤l.length+1 from fun l=>by
  induction l with
  | nil=>simp [Cn.cutW]
  | cons c t ih =>
   unfold Cn.cutW
   split
   ·simp;omega
   ·split
    ·simp
    ·rename_i h;rw [h]at ih;simp at ih ⊢;omega)
 clear hmax
 go_enter Tryz.func16,Tryz.ntmps16
 go_wp2
 go_loopw [3,4] (fun v fv wr=>∃(pos f:Nat) (ws:List (List UInt8)),fv=.int .i64 f∧Hid (Cn.WSt s w wr w.heap.size pos f ws v)) (fun _ _ wr=>s.size - wr.iterPos w.heap.size)
 case atStart=>exact⟨0,0,[],rfl,hid ⟨World.iter_heap w s 0,(Below.refl _ w).alloc (Nat.le_refl _) _,by simp,Nat.le_refl _,Nat.zero_le _,by simp,World.ownsRow_nil _ _ _ _⟩⟩
 case round =>
  obtain⟨pos,f,ws,rfl,H⟩:=hrel
  have hfp:=H.out.fp
  have hps:=H.out.ps
  have hsz:=H.out.bel.size
  have HI0:=hid H.out.it
  have hwl:ws.length≤s.size+1:=by
   have h1:=HWl.out s.data.toList
   rw [H.out.cut,hsl.out,List.length_append]at h1
   omega
  obtain⟨va,vc,hv⟩:=Cn.owns_form H.out.own
  have hbi:w.heap.size<wr.heap.size:=(Array.getElem?_eq_some_iff.1 H.out.it).1
  by_cases hp:pos<s.size
  ·have hnx:∀ ty,(Instr.next (.pointer (some ⟨w.heap.size,0,none⟩)) true ty).run Tryz.prog wr=_:=fun ty=>Lib.run_next_any_at wr w.heap.size s pos ty H.out.it hp
   obtain⟨hin1,hin2⟩:=Cn.inner s pos hp
   have hwd:=Lib.width_pos s pos
   have hsk:s.data.toList[pos]?=some (s[pos]'hp):=by rw [List.getElem?_eq_getElem (by simpa using hp)];rfl
   have hR32:((Utf8.decode s pos).1=32 ↔ s[pos]'hp=32)∧(s[pos]'hp=32→(Utf8.decode s pos).2=1):=by
    by_cases ha:(s[pos]'hp).toNat<128
    ·rw [decode_ascii s pos hp ha]
     exact⟨⟨fun h=>UInt8.toNat_inj.1 (by simpa using h),fun h=>by rw [h];rfl⟩,fun _=>rfl⟩
    ·have:=(decode_high s pos hp (by omega)).1
     refine⟨⟨fun h=>by omega,fun h=>?_⟩,fun h=>?_⟩
     all_goals (rw [h]at ha;exact absurd (by decide) ha)
   have hRl:=decode_le s pos
   obtain⟨R,hR⟩:∃ R,(Utf8.decode s pos).1=R:=⟨_,rfl⟩
   obtain⟨K,hK⟩:∃ K,(Utf8.decode s pos).2=K:=⟨_,rfl⟩
   rw [hR,hK]at hnx hR32
   rw [hR]at hRl
   rw [hK]at hin1 hin2 hwd
   have hit2:=Lib.iterAt_heap wr w.heap.size s pos (pos+K) H.out.it
   have hbw2:=Lib.below_iterAt H.out.bel (k:=w.heap.size) (Nat.le_refl _) s (pos+K)
   have hown2:=ownsRow_iterAt H.out.own (k:=w.heap.size) (Nat.lt_succ_self _) s (pos+K)
   have hsz2:=Lib.iterAt_size wr w.heap.size s (pos+K)
   obtain⟨W,hWd⟩:∃ W,wr.iterAt w.heap.size s (pos+K)=W:=⟨_,rfl⟩
   rw [hWd]at hnx hit2 hbw2 hown2 hsz2
   have HO:=hid hown2
   have HB:=hid hbw2
   subst hv
   have hwi:(ws.length:Int)≤1000001:=by omega
   have f0:(f:Int)≤(pos:Int):=by omega
   have p0:(pos:Int)<(s.size:Int):=by omega
   have hsW:w.heap.size<W.heap.size:=by omega
   by_cases h32:R=32
   ·have hk1:K=1:=hR32.2 (hR32.1.1 h32)
    have hsb:s.data.toList[pos]?=some 32:=by rw [hsk,hR32.1.1 h32]
    have HC:=hid (Cn.cut_here hfp hp H.out.no hsb H.out.cut)
    subst hk1 h32
    have hit4:=hid hit2
    replace hit2:=hid hit2
    clear hR32 hsk hsb hR hK hRl hin2 hown2 hbw2 hwd hWd H hwl
    obtain⟨D,hD⟩:∃ D:ByteArray,s.extract f pos=D:=⟨_,rfl⟩
    have HD:=hid (show Cn.sv ((s.data.toList.drop f).take (pos - f))=.string D by rw [← hD];exact Cn.ext_sv s f pos)
    go_wp2_with (at_builtin;go_loud (refine wpList_append_reads rfl _ _ 40 rfl (w.heap.size+1) 9 i0 (.string ⟨#[]⟩) 1 16 Tryz.underlying40 hi hz0 hz1 hz2 rfl (by decide) _ ws.length _ rfl (Cn.owns_kept HO.out ?_) _ 1 [.string (D)] rfl (Cn.reads_litq _ _ #[.string (D)] 9 1 1 (by decide) rfl ?_) ?_ ?_ ?_ ?_ ?_;(focus(exact bT));(focus(first|rfl|omega|(simp;done)|(simp;omega)|(simp [more_size];done)));(focus(intro q hq;simp at hq;subst hq;rfl));(focus(unfold maxLen;omega));(focus omega);(focus(first|(simp;omega)|omega));intro v' w1 hown' hgrow))
    go_roundw
    case rel =>
     have hb3:=below_grown (HB.out.alloc (by omega) _) (by simp;omega) hgrow (fun k hk=>Nat.le_of_lt (Nat.lt_of_lt_of_le (Nat.lt_succ_self _) (owns_rows HO.out k hk)))
     have hit3:w1.heap[w.heap.size]?=some (.stringIter s (pos+1)):=by
      rw [hgrow.block _ (by simp;omega) (fun e=>by have:=owns_rows HO.out _ e.symm;omega)]
      rw [← hit4.out]
      simp only [World.alloc,Array.getElem?_push]
      rw [if_neg (by omega)]
     refine⟨pos+1,pos+1,ws++[(s.data.toList.drop f).take (pos - f)],rfl,hid ⟨hit3,hb3,HC.out,Nat.le_refl _,by omega,by rw [Nat.sub_self];simp,?_⟩⟩
     have e:Cn.svs (ws++[(s.data.toList.drop f).take (pos - f)])=Cn.svs ws++[.string D]:=by simp [Cn.svs,HD.out]
     rw [e,List.length_append,List.length_singleton]
     exact hown'
    case measure =>
     have hit3:w1.heap[w.heap.size]?=some (.stringIter s (pos+1)):=by
      rw [hgrow.block _ (by simp;omega) (fun e=>by have:=owns_rows HO.out _ e.symm;omega)]
      rw [← hit4.out]
      simp only [World.alloc,Array.getElem?_push]
      rw [if_neg (by omega)]
     simp only [World.iterPos,hit3,HI0.out]
     omega
   ·have hne:((R:Int) == 32)=false:=by rw [beq_eq_false_iff_ne];omega
    have hsb:s.data.toList[pos]? ≠ some 32:=by rw [hsk];intro h;exact h32 (hR32.1.2 (by simpa using h))
    have HN:=hid (Cn.no_blank hfp hin1 H.out.no (fun j hj=>by
     rcases Nat.eq_zero_or_pos j with rfl|hj0
     ·exact hsb
     ·exact hin2 j hj0 hj))
    have HC:=hid H.out.cut
    clear hR32 hsk hsb hR hK hRl hin2 hown2 hbw2 hWd H hwl h32
    replace hit2:=hid hit2
    go_wp2
    go_roundw
    case rel=>exact⟨pos+K,f,ws,rfl,hid ⟨hit2.out,HB.out,HC.out,by omega,hin1,HN.out,HO.out⟩⟩
    case measure =>
     simp only [World.iterPos,hit2.out,HI0.out]
     have:=hwd
     omega
  ·have hpe:pos=s.size:=by omega
   have hnx:∀ ty,(Instr.next (.pointer (some ⟨w.heap.size,0,none⟩)) true ty).run Tryz.prog wr=_:=fun ty=>Lib.run_next_end_at wr w.heap.size s pos ty H.out.it hp
   have HO:=hid H.out.own
   have HB:=hid H.out.bel
   obtain⟨D,hD⟩:∃ D:ByteArray,s.extract f s.size=D:=⟨_,rfl⟩
   have HC:=hid (show Cn.svs (Cn.cutW s.data.toList)=Cn.svs ws++[.string D]∧(Cn.cutW s.data.toList).length=ws.length+1 by
    have hno:=H.out.no
    subst hpe
    have ht:(s.data.toList.drop f).take (s.size - f)=s.data.toList.drop f:=List.take_of_length_le (by simp)
    have hx:=Cn.ext_sv s f s.size
    rw [ht]at hno hx
    rw [H.out.cut,Cn.cutW_none _ hno]
    refine⟨?_,by simp⟩
    simp [Cn.svs,hx,← hD])
   subst hv
   have hwi:(ws.length:Int)≤1000001:=by omega
   have f0:(f:Int)≤(s.size:Int):=by omega
   clear H hwl hpe hp
   go_wp2_with (at_builtin;go_loud (refine wpList_append_reads rfl _ _ 40 rfl (w.heap.size+1) 9 i0 (.string ⟨#[]⟩) 1 16 Tryz.underlying40 hi hz0 hz1 hz2 rfl (by decide) _ ws.length _ rfl (Cn.owns_kept HO.out ?_) _ 1 [.string (D)] rfl (Cn.reads_litq _ _ #[.string (D)] 9 1 1 (by decide) rfl ?_) ?_ ?_ ?_ ?_ ?_;(focus(exact bT));(focus(first|rfl|omega|(simp;done)|(simp;omega)|(simp [more_size];done)));(focus(intro q hq;simp at hq;subst hq;rfl));(focus(unfold maxLen;omega));(focus omega);(focus(first|(simp;omega)|omega));intro v' w1 hown' hgrow))
   go_ret
   have hb3:=below_grown (HB.out.alloc (by omega) _) (by simp;omega) hgrow (fun k hk=>Nat.le_of_lt (Nat.lt_of_lt_of_le (Nat.lt_succ_self _) (owns_rows HO.out k hk)))
   refine⟨⟨_,rfl,?_⟩,more_of_below hb3⟩
   have:=Reads.of_owns hown'
   rw [HC.out.1,HC.out.2]
   exact this
end Go.Proofs.YthkegfdijohpaaaGreatDoor
