/- The walk of the law TreeTakes. Conditions: the library's variables are as they were laid. -/
import Derived.Test.YtlhmkfcbldghfaaGreatDoorSnI
import Derived.Test.YtlhmkfcbldghfaaGreatDoorSqD
import Derived.Test.YtlhmkfcbldghfaaGreatDoorSqA
import Derived.Test.YtlhmkfcbldghfaaGreatDoorTrE
namespace Go.Proofs.YtlhmkfcbldghfaaGreatDoor
set_option linter.all false
open Go.Lib (hid)
set_option maxRecDepth 1000000
set_option maxHeartbeats 16000000
open Go.RowKit
open Fr (tyM)
theorem var_st{w X Y:World}{n:String}{cs cs0:Array Value}{gi:Nat}(hg:Tryz.prog.globalNamed n=some gi)(h0:w.var? Tryz.prog n=some cs0)(hb:∀ b,b<w.heap.size→Y.heap[b]?=X.heap[b]?)(h:X.var? Tryz.prog n=some cs):Y.var? Tryz.prog n=some cs:=by
 unfold World.var? at h0 h ⊢
 rw [hg]at h0 h ⊢
 simp only [Option.bind_some]at h0 h ⊢
 have hlt:gi<w.heap.size:=by
  rcases Nat.lt_or_ge gi w.heap.size with h'|h'
  ·exact h'
  ·rw [Array.getElem?_eq_none h']at h0;cases h0
 rw [hb gi hlt]
 exact h
theorem gx_st{w:World}(h:Gx w):∀ X Y:World,X.heap.size≤Y.heap.size→(∀ b,b<w.heap.size→Y.heap[b]?=X.heap[b]?)→Gx X→Gx Y:=by
 intro X Y _ hb hX
 obtain⟨ev0,a1,-⟩:=h.gs.err
 obtain⟨ev,a2,a3⟩:=hX.gs.err
 obtain⟨cs0,a4,-⟩:=h.dbr
 obtain⟨cs,a5,a6⟩:=hX.dbr
 exact⟨⟨var_st g_tab h.gs.tab hb hX.gs.tab,ev,var_st g_err a1 hb a2,a3⟩,var_st g_p10 h.p10 hb hX.p10,cs,var_st g_dbr a4 hb a5,a6⟩
namespace Tr
theorem parse_at{s:ByteArray}{q c:Int}(h:parseR s=.error (q,c)):0≤q∧q≤(s.size:Int):=by
 unfold parseR at h
 split at h
 ·rename_i p e he
  injection h with h
  injection h with h1 h2
  have:=(lex_no_zero he).2
  omega
 ·rename_i ts hts
  split at h
  ·rename_i q2 hq
   injection h with h
   injection h with h1 h2
   subst h1
   have h3:=(lex_facts s.data.toList.length s.data.toList 0 0 ts (Nat.le_refl _) (lexR_lexF hts)).2.2
   have e:s.data.toList.length=s.size:=by simp
   exact parsed_err _ ⟨by omega,fun t ht=>by have:=h3 t ht;omega⟩ hq
  ·split at h
   ·cases h
   ·injection h with h
    injection h with h1 h2
    omega
end Tr
theorem TreeTakes_any(s:ByteArray)(w:World)(hg:Gx w) :
  Calls Tryz.prog 6 #[.string s] w fun e w'=>e=.returned (.bool true)∧Below w.heap.size w w':=by
 have HF:=hid (Fr.fm_start w none Gx (by simp) (gx_st hg) hg)
 have HW:=hid (fun W hg=>wakes10_any W hg)
 clear hg
 by_cases hbig:20000<s.size
 ·have hb1:(20000:Int)<(s.size:Int):=by omega
  clear hbig
  go_enter Tryz.func6,Tryz.ntmps6
  go_wp2_with (first
   | (go_at_call 7;(with_reducible refine(HW.out _ HF.out.kp.gs).mono ?_);rintro e W1 ⟨rfl,hb⟩;replace HF:=hid (HF.out.below hb);clear hb))
  refine bodyPost_ret (v:=.bool true) (by simp [results,Tryz.results6,go_sem];try rfl) rfl ⟨rfl,Fr.fm_below HF.out⟩
 have hb1:¬(20000:Int)<(s.size:Int):=by omega
 have hs:s.size<4294967281:=by omega
 cases hX:Tr.parseR s with
 | error qc =>
  obtain⟨q,c⟩:=qc
  have hc:=Tr.parse_err hX
  obtain⟨hq0,hq1⟩:=Tr.parse_at hX
  have HP:=hid (fun W hg=>parse_no hX hs W hg)
  clear hX hs hbig
  go_enter Tryz.func6,Tryz.ntmps6
  go_wp2_with (first
   | (go_at_call 8;(with_reducible refine(HP.out _ HF.out.kp.gs).mono ?_);rintro e W1 ⟨hgr,rfl⟩;have HF0:=HF.out;replace HF:=hid (Fr.Fm.call (Kp':=Gx) HF0 hgr HF0.st (HF0.kp.below ⟨hgr.os,hgr.tape,hgr.output,hgr.size,fun k hk=>hgr.block k hk (by simp)⟩));clear hgr HF0)
   | ((with_reducible refine Fr.is_alloc ?_);(refine Fr.wl_alloc HF.out tyM ?_);intro b1 W1 HF1;replace HF:=hid HF1;clear HF1)
   | ((with_reducible refine Fr.is_store (T:=30) ?_);(refine Fr.wl_store 0 HF.out tyM rfl rfl rfl rfl rfl (z4 rfl) (by intro v hv;simp [Fr.zM]at hv;rcases hv with rfl|rfl|rfl|rfl|rfl|rfl|rfl|rfl <;> rfl) ?_);intro W1 HF1;simp only [Fr.setL,z0,z1]at HF1;replace HF:=hid HF1;clear HF1)
   | ((with_reducible refine Fr.is_load (T:=30) ?_);(refine Fr.wl_load 0 HF.out rfl rfl Tryz.underlying30 rfl tyM rfl ?_))
   | (go_at_call 9;(with_reducible refine(rz_same HF.out).mono ?_);rintro e W3 ⟨rfl,HF1⟩;replace HF:=hid HF1;clear HF1)
   | (go_at_call 7;(with_reducible refine(HW.out _ HF.out.kp.gs).mono ?_);rintro e W1 ⟨rfl,hb⟩;replace HF:=hid (HF.out.below hb);clear hb))
  refine bodyPost_ret (v:=.bool true) (by simp [results,Tryz.results6,go_sem];try rfl) rfl ⟨rfl,Fr.fm_below HF.out⟩
 | ok m =>
  obtain⟨ts,h1,h2,hlim⟩:=Tr.parse_ok hX
  have hwm:=Tr.parsed_good _ (Tr.lexR_good h1).1 h2
  obtain⟨hl0,hl1⟩:=Tr.left_in hlim
  have HP:=hid (fun W hg=>parse_yes hX hs W hg)
  have HCK:=hid (fun(W:World) (R:List Fr.RI) (v1 v2 v3 v4 v5 v6:Value) h=>check_yes m hwm hlim (w:=w) (W:=W) (g:=none) (R:=R) (Ds:=[]) v1 v2 v3 v4 v5 v6 m.pos h)
  have HSZ:=hid (fun(W:World) (R:List Fr.RI) (v1 v2 v3 v4 v5 v6:Value) h=>size_any m hl0 hl1 (w:=w) (W:=W) (g:=none) (Kp:=Gx) (R:=R) (Ds:=[]) ⟨m.name.toArray⟩ v1 v2 v3 v4 v5 v6 m.pos h)
  have HSM:=hid (fun(W:World) (R:List Fr.RI) (v1 v2 v3 v4 v5 v6:Value) h=>same_self m (w:=w) (W:=W) (g:=none) (Kp:=Gx) (R:=R) (Ds:=[]) v1 v2 v3 v4 v5 v6 m.pos h)
  generalize (Tr.walkW m).left=lf at hl0 hl1 HSZ
  have hz0:(0:Int)≤4000 - lf:=by omega
  have hz1:(4000:Int) - lf≤4000:=by omega
  clear hX hs hbig h1 h2 hlim hwm
  go_enter Tryz.func6,Tryz.ntmps6
  go_wp2_with (first
   | (go_at_call 8;(with_reducible refine(HP.out _ HF.out.kp.gs).mono ?_);rintro e W1 ⟨hgr,v,rfl,hV⟩;obtain⟨v1,v2,v3,v4,v5,v6,rfl,hd0,hd1,hd2,hd3,hd4,hd5⟩:=Fr.VMo.parts hV;have HF0:=HF.out;have HF2:=Fr.Fm.call (Kp':=Gx) HF0 hgr HF0.st (HF0.kp.below ⟨hgr.os,hgr.tape,hgr.output,hgr.size,fun k hk=>hgr.block k hk (by simp)⟩);replace HF:=hid (HF0.since (HF0.since (HF0.since (HF0.since (HF0.since (HF0.since HF2 hd5) hd4) hd3) hd2) hd1) hd0);clear hgr hV hd0 hd1 hd2 hd3 hd4 hd5 HF0 HF2)
   | ((with_reducible refine Fr.is_alloc ?_);(refine Fr.wl_alloc HF.out tyM ?_);intro b1 W1 HF1;replace HF:=hid HF1;clear HF1)
   | ((with_reducible refine Fr.is_store (T:=30) ?_);(refine Fr.wl_store 0 HF.out tyM rfl rfl rfl rfl rfl (z4 rfl) oT ?_);intro W1 HF1;simp only [Fr.setL,z0,z1]at HF1;replace HF:=hid HF1;clear HF1)
   | ((with_reducible refine Fr.is_loadW (T:=30) ?_);(refine Fr.wl_want (by rfl) ?_);(refine Fr.wl_load 0 HF.out rfl rfl Tryz.underlying30 rfl tyM rfl ?_))
   | (go_at_call 16;(with_reducible refine(HCK.out _ _ _ _ _ _ _ _ HF.out).mono ?_);rintro e W3 ⟨rfl,HF1⟩;replace HF:=hid HF1;clear HF1)
   | (go_at_call 15;(with_reducible refine(HSZ.out _ _ _ _ _ _ _ _ HF.out).mono ?_);rintro e W3 ⟨rfl,HF1⟩;replace HF:=hid HF1;clear HF1)
   | (go_at_call 13;(with_reducible refine(HSM.out _ _ _ _ _ _ _ _ HF.out).mono ?_);rintro e W3 ⟨rfl,HF1⟩;replace HF:=hid HF1;clear HF1)
   | (go_at_call 7;(with_reducible refine(HW.out _ HF.out.kp.gs).mono ?_);rintro e W1 ⟨rfl,hb⟩;replace HF:=hid (HF.out.below hb);clear hb))
  refine bodyPost_ret (v:=.bool true) (by simp [results,Tryz.results6,go_sem];try rfl) rfl ⟨rfl,Fr.fm_below HF.out⟩
end Go.Proofs.YtlhmkfcbldghfaaGreatDoor
