/- The walk of the library's inner ParseUint at base 16 and size 32. Conditions: the text is not empty and has digits of that base alone. -/
import Derived.Test.YtlhmkfcbldghfaaGreatDoorTkB
import Derived.Lib.ConvBytes
import Derived.Lib.Walk
import Derived.Lib.AtoiErrMem
import Derived.Laws.Strings3
import Derived.Laws.BitsAllLaws
import Derived.BigCall
import Derived.BigGuard
import Derived.Test.YtlhmkfcbldghfaaGreatDoorShelf
import Derived.Lib.LaidTab
import Derived.Lib.SmallJoins
import Derived.ChangeBears2
import Derived.Test.YtlhmkfcbldghfaaGreatDoorAppendW
import Derived.Maps.OwnOps
import Derived.Test.YtlhmkfcbldghfaaGreatDoorMoreX
import Derived.Maps.Own
namespace Go.Proofs.YtlhmkfcbldghfaaGreatDoor
set_option linter.all false
open Go.Lib (hid)
set_option maxRecDepth 1000000
set_option maxHeartbeats 16000000
open Go.RowKit
theorem lower_hex1(c:Nat)(w:World)(h1:65≤c)(h2:c≤70) :
  Calls Tryz.prog 213 #[.int .u8 (c:Int)] w fun e w'=>e=.returned (.int .u8 ((c:Int)+32))∧w'=w:=by
 have hb:bits .or .u8 (c:Int) 32=(c:Int)+32:=by
  have:=u8_or_nat c 32 (by omega) (by omega)
  rw [Tk.low_letter h1 h2]at this
  simpa using this
 go_enter Tryz.func213,Tryz.ntmps213
 go_wp2
 go_ret
 exact⟨rfl,rfl⟩
theorem puin_16_32(t:ByteArray)(hne:t.size ≠ 0)(hmax:t.size<4294967281)(hd:∀ c∈t.data.toList,Tk.hexa c=true)(w:World) :
  Calls Tryz.prog 181 #[.string t,.int .i64 16,.int .i64 32] w fun e w' =>
   ((Tk.val 16 t.data.toList≤4294967295∧e=.returned (.tuple #[.int .u64 (Tk.val 16 t.data.toList),.nilIface]))∨(4294967295<Tk.val 16 t.data.toList∧e=.returned (.tuple #[.int .u64 4294967295,.iface 274 (.int .i64 1)])))∧∃ g,w'=more w g:=by
 have hemp:t.toList.isEmpty=false:=by
  rw [← decide_eq_emptyBytes]
  exact decide_eq_false (fun h=>hne (by rw [h];rfl))
 have hcv:=Lib.run_convert_string_bytes (P:=Tryz.prog) w 9 132 5 t (u:=.string) Tryz.underlying9 Tryz.underlying132 Tryz.underlying5
 have hB:∀ j,j<t.size→(Lib.bytesWorld w 5 t).cell? ⟨w.heap.size,j,none⟩=some (.int .u8 (t.data.toList.getD j 0).toNat):=fun j hj=>Lib.bytesWorld_cell w 5 t j hj
 have hbel:Below w.heap.size w (Lib.bytesWorld w 5 t):=Lib.bytesWorld_below _ _ _
 obtain⟨W1,hW1⟩:∃ W1,W1=Lib.bytesWorld w 5 t:=⟨_,rfl⟩
 rw [← hW1]at hcv hB hbel
 have hend:=hid (more_of_below hbel)
 clear hW1 hbel
 obtain⟨bs,hL⟩:∃ bs,bs=t.data.toList:=⟨_,rfl⟩
 have hLn:bs.length=t.size:=by rw [hL];simp
 rw [← hL]at hB hd ⊢
 clear hL
 replace hB:=hid hB
 replace hd:=hid hd
 have hmv:IntKind.u64.wrap (IntKind.u64.wrap (4294967295+1) - 1)=4294967295:=by
  rw [IntKind.wrap_u64,IntKind.wrap_u64]
  decide
 simp only [Int.reduceAdd]at hmv
 go_enter Tryz.func181,Tryz.ntmps181
 go_wp2
 go_loop [12,13,101] (fun vu vn vi=>∃(k acc:Nat) (a:Int),vu=.bool false∧vn=.int .u64 a∧vi=.int .i64 k∧k≤t.size∧Hid (a=(acc:Int)∧acc≤4294967295∧Tk.val 16 bs=Tk.va 16 acc (bs.drop k)))
  (fun _ _ vi=>t.size - (intOf vi).toNat)
 case atStart=>exact⟨0,0,0,rfl,rfl,rfl,by omega,rfl,by omega,rfl⟩
 case round =>
  obtain⟨k,acc,a,rfl,rfl,rfl,hk,hh⟩:=hrel
  obtain⟨ha,hacc,hdec⟩:=hh.out
  clear hh
  have a0:0≤a:=by omega
  have a1:a≤4294967295:=by omega
  by_cases hkn:k<t.size
  ·have hc:=hB.out k hkn
   have hdrop:bs.drop k=bs[k]'(by omega)::bs.drop (k+1):=List.drop_eq_getElem_cons (by omega)
   have hget:bs.getD k 0=bs[k]'(by omega):=by simp [List.getD,List.getElem?_eq_getElem (show k<bs.length by omega)]
   have hdc:=hd.out (bs[k]'(by omega)) (List.getElem_mem _)
   rw [hdrop,Tk.va_cons]at hdec
   rw [hget]at hc
   generalize bs[k]'(by omega)=c at hc hdec hdc
   have hc256:c.toNat<256:=c.toNat_lt
   have b95:((c.toNat:Int) == 95)=false:=by
    have:=Tk.hexa_le hdc
    simp;omega
   clear hdrop hget
   rcases Tk.hexa_cases hdc with⟨hd0,hd1,hdg⟩|⟨hd0,hd1,hdg⟩
   ·by_cases hov:4294967295<acc * 16+(c.toNat - 48)
    ·have HF:=hid (show 4294967295<Tk.val 16 bs by rw [hdec];exact Tk.va_range (by decide) (by rw [hdg];exact hov))
     have iov:4294967295<a * 16+((c.toNat:Int) - 48):=by omega
     clear hdec hacc hov ha hdg
     go_wp2
     go_ret2
     exact⟨.inr ⟨HF.out,rfl⟩,hend.out⟩
    ·have HN:Hid (a * 16+((c.toNat:Int) - 48)=((acc * 16+(c.toNat - 48):Nat):Int)∧acc * 16+(c.toNat - 48)≤4294967295∧Tk.val 16 bs=Tk.va 16 (acc * 16+(c.toNat - 48)) (bs.drop (k+1))):=hid ⟨by omega,by omega,by rw [← hdg];exact hdec⟩
     have iov:a * 16+((c.toNat:Int) - 48)≤4294967295:=by omega
     clear hdec hacc hov ha hdg
     go_wp2
     refine⟨⟨k+1,acc * 16+(c.toNat - 48),a * 16+((c.toNat:Int) - 48),rfl,(by first|rfl|(congr 1;omega)),(by first|rfl|(congr 1;omega)),by omega,HN⟩,by simp [intOf];omega⟩
   ·by_cases hov:4294967295<acc * 16+(c.toNat - 55)
    ·have HF:=hid (show 4294967295<Tk.val 16 bs by rw [hdec];exact Tk.va_range (by decide) (by rw [hdg];exact hov))
     have iov:4294967295<a * 16+((c.toNat:Int) - 55):=by omega
     clear hdec hacc hov ha hdg
     go_wp2_with (go_at_call 213;refine(lower_hex1 _ _ hd0 hd1).mono ?_;rintro e w' ⟨rfl,rfl⟩)
     go_ret2
     exact⟨.inr ⟨HF.out,rfl⟩,hend.out⟩
    ·have HN:Hid (a * 16+((c.toNat:Int) - 55)=((acc * 16+(c.toNat - 55):Nat):Int)∧acc * 16+(c.toNat - 55)≤4294967295∧Tk.val 16 bs=Tk.va 16 (acc * 16+(c.toNat - 55)) (bs.drop (k+1))):=hid ⟨by omega,by omega,by rw [← hdg];exact hdec⟩
     have iov:a * 16+((c.toNat:Int) - 55)≤4294967295:=by omega
     clear hdec hacc hov ha hdg
     go_wp2_with (go_at_call 213;refine(lower_hex1 _ _ hd0 hd1).mono ?_;rintro e w' ⟨rfl,rfl⟩)
     refine⟨⟨k+1,acc * 16+(c.toNat - 55),a * 16+((c.toNat:Int) - 55),rfl,(by first|rfl|(congr 1;omega)),(by first|rfl|(congr 1;omega)),by omega,HN⟩,by simp [intOf];omega⟩
  ·have hkk:k=t.size:=by omega
   subst hkk
   have hF:Tk.va 16 acc (bs.drop t.size)=acc:=by rw [List.drop_eq_nil_of_le (by omega)];rfl
   rw [hF]at hdec
   have HV:=hid hdec
   have HA:=hid ha
   have HM:=hid hacc
   clear hdec hF ha hacc
   go_wp2
   go_ret2
   exact⟨.inl ⟨by rw [HV.out];exact HM.out,by rw [HV.out,← HA.out];rfl⟩,hend.out⟩
theorem lower_hex2(c:Nat)(w:World)(h1:65≤c)(h2:c≤70) :
  Calls Tryz.prog 213 #[.int .u8 (c:Int)] w fun e w'=>e=.returned (.int .u8 ((c:Int)+32))∧w'=w:=by
 have hb:bits .or .u8 (c:Int) 32=(c:Int)+32:=by
  have:=u8_or_nat c 32 (by omega) (by omega)
  rw [Tk.low_letter h1 h2]at this
  simpa using this
 go_enter Tryz.func213,Tryz.ntmps213
 go_wp2
 go_ret
 exact⟨rfl,rfl⟩
theorem puin_16_8(t:ByteArray)(hne:t.size ≠ 0)(hmax:t.size<4294967281)(hd:∀ c∈t.data.toList,Tk.hexa c=true)(w:World) :
  Calls Tryz.prog 181 #[.string t,.int .i64 16,.int .i64 8] w fun e w' =>
   ((Tk.val 16 t.data.toList≤255∧e=.returned (.tuple #[.int .u64 (Tk.val 16 t.data.toList),.nilIface]))∨(255<Tk.val 16 t.data.toList∧e=.returned (.tuple #[.int .u64 255,.iface 274 (.int .i64 1)])))∧∃ g,w'=more w g:=by
 have hemp:t.toList.isEmpty=false:=by
  rw [← decide_eq_emptyBytes]
  exact decide_eq_false (fun h=>hne (by rw [h];rfl))
 have hcv:=Lib.run_convert_string_bytes (P:=Tryz.prog) w 9 132 5 t (u:=.string) Tryz.underlying9 Tryz.underlying132 Tryz.underlying5
 have hB:∀ j,j<t.size→(Lib.bytesWorld w 5 t).cell? ⟨w.heap.size,j,none⟩=some (.int .u8 (t.data.toList.getD j 0).toNat):=fun j hj=>Lib.bytesWorld_cell w 5 t j hj
 have hbel:Below w.heap.size w (Lib.bytesWorld w 5 t):=Lib.bytesWorld_below _ _ _
 obtain⟨W1,hW1⟩:∃ W1,W1=Lib.bytesWorld w 5 t:=⟨_,rfl⟩
 rw [← hW1]at hcv hB hbel
 have hend:=hid (more_of_below hbel)
 clear hW1 hbel
 obtain⟨bs,hL⟩:∃ bs,bs=t.data.toList:=⟨_,rfl⟩
 have hLn:bs.length=t.size:=by rw [hL];simp
 rw [← hL]at hB hd ⊢
 clear hL
 replace hB:=hid hB
 replace hd:=hid hd
 have hmv:IntKind.u64.wrap (IntKind.u64.wrap (255+1) - 1)=255:=by
  rw [IntKind.wrap_u64,IntKind.wrap_u64]
  decide
 simp only [Int.reduceAdd]at hmv
 go_enter Tryz.func181,Tryz.ntmps181
 go_wp2
 go_loop [12,13,101] (fun vu vn vi=>∃(k acc:Nat) (a:Int),vu=.bool false∧vn=.int .u64 a∧vi=.int .i64 k∧k≤t.size∧Hid (a=(acc:Int)∧acc≤255∧Tk.val 16 bs=Tk.va 16 acc (bs.drop k)))
  (fun _ _ vi=>t.size - (intOf vi).toNat)
 case atStart=>exact⟨0,0,0,rfl,rfl,rfl,by omega,rfl,by omega,rfl⟩
 case round =>
  obtain⟨k,acc,a,rfl,rfl,rfl,hk,hh⟩:=hrel
  obtain⟨ha,hacc,hdec⟩:=hh.out
  clear hh
  have a0:0≤a:=by omega
  have a1:a≤255:=by omega
  by_cases hkn:k<t.size
  ·have hc:=hB.out k hkn
   have hdrop:bs.drop k=bs[k]'(by omega)::bs.drop (k+1):=List.drop_eq_getElem_cons (by omega)
   have hget:bs.getD k 0=bs[k]'(by omega):=by simp [List.getD,List.getElem?_eq_getElem (show k<bs.length by omega)]
   have hdc:=hd.out (bs[k]'(by omega)) (List.getElem_mem _)
   rw [hdrop,Tk.va_cons]at hdec
   rw [hget]at hc
   generalize bs[k]'(by omega)=c at hc hdec hdc
   have hc256:c.toNat<256:=c.toNat_lt
   have b95:((c.toNat:Int) == 95)=false:=by
    have:=Tk.hexa_le hdc
    simp;omega
   clear hdrop hget
   rcases Tk.hexa_cases hdc with⟨hd0,hd1,hdg⟩|⟨hd0,hd1,hdg⟩
   ·by_cases hov:255<acc * 16+(c.toNat - 48)
    ·have HF:=hid (show 255<Tk.val 16 bs by rw [hdec];exact Tk.va_range (by decide) (by rw [hdg];exact hov))
     have iov:255<a * 16+((c.toNat:Int) - 48):=by omega
     clear hdec hacc hov ha hdg
     go_wp2
     go_ret2
     exact⟨.inr ⟨HF.out,rfl⟩,hend.out⟩
    ·have HN:Hid (a * 16+((c.toNat:Int) - 48)=((acc * 16+(c.toNat - 48):Nat):Int)∧acc * 16+(c.toNat - 48)≤255∧Tk.val 16 bs=Tk.va 16 (acc * 16+(c.toNat - 48)) (bs.drop (k+1))):=hid ⟨by omega,by omega,by rw [← hdg];exact hdec⟩
     have iov:a * 16+((c.toNat:Int) - 48)≤255:=by omega
     clear hdec hacc hov ha hdg
     go_wp2
     refine⟨⟨k+1,acc * 16+(c.toNat - 48),a * 16+((c.toNat:Int) - 48),rfl,(by first|rfl|(congr 1;omega)),(by first|rfl|(congr 1;omega)),by omega,HN⟩,by simp [intOf];omega⟩
   ·by_cases hov:255<acc * 16+(c.toNat - 55)
    ·have HF:=hid (show 255<Tk.val 16 bs by rw [hdec];exact Tk.va_range (by decide) (by rw [hdg];exact hov))
     have iov:255<a * 16+((c.toNat:Int) - 55):=by omega
     clear hdec hacc hov ha hdg
     go_wp2_with (go_at_call 213;refine(lower_hex2 _ _ hd0 hd1).mono ?_;rintro e w' ⟨rfl,rfl⟩)
     go_ret2
     exact⟨.inr ⟨HF.out,rfl⟩,hend.out⟩
    ·have HN:Hid (a * 16+((c.toNat:Int) - 55)=((acc * 16+(c.toNat - 55):Nat):Int)∧acc * 16+(c.toNat - 55)≤255∧Tk.val 16 bs=Tk.va 16 (acc * 16+(c.toNat - 55)) (bs.drop (k+1))):=hid ⟨by omega,by omega,by rw [← hdg];exact hdec⟩
     have iov:a * 16+((c.toNat:Int) - 55)≤255:=by omega
     clear hdec hacc hov ha hdg
     go_wp2_with (go_at_call 213;refine(lower_hex2 _ _ hd0 hd1).mono ?_;rintro e w' ⟨rfl,rfl⟩)
     refine⟨⟨k+1,acc * 16+(c.toNat - 55),a * 16+((c.toNat:Int) - 55),rfl,(by first|rfl|(congr 1;omega)),(by first|rfl|(congr 1;omega)),by omega,HN⟩,by simp [intOf];omega⟩
  ·have hkk:k=t.size:=by omega
   subst hkk
   have hF:Tk.va 16 acc (bs.drop t.size)=acc:=by rw [List.drop_eq_nil_of_le (by omega)];rfl
   rw [hF]at hdec
   have HV:=hid hdec
   have HA:=hid ha
   have HM:=hid hacc
   clear hdec hF ha hacc
   go_wp2
   go_ret2
   exact⟨.inl ⟨by rw [HV.out];exact HM.out,by rw [HV.out,← HA.out];rfl⟩,hend.out⟩
theorem puin_10_31(t:ByteArray)(hne:t.size ≠ 0)(hmax:t.size<4294967281)(hd:∀ c∈t.data.toList,Tk.digit c=true)(w:World) :
  Calls Tryz.prog 181 #[.string t,.int .i64 10,.int .i64 31] w fun e w' =>
   ((Tk.val 10 t.data.toList≤2147483647∧e=.returned (.tuple #[.int .u64 (Tk.val 10 t.data.toList),.nilIface]))∨(2147483647<Tk.val 10 t.data.toList∧e=.returned (.tuple #[.int .u64 2147483647,.iface 274 (.int .i64 1)])))∧∃ g,w'=more w g:=by
 have hemp:t.toList.isEmpty=false:=by
  rw [← decide_eq_emptyBytes]
  exact decide_eq_false (fun h=>hne (by rw [h];rfl))
 have hcv:=Lib.run_convert_string_bytes (P:=Tryz.prog) w 9 132 5 t (u:=.string) Tryz.underlying9 Tryz.underlying132 Tryz.underlying5
 have hB:∀ j,j<t.size→(Lib.bytesWorld w 5 t).cell? ⟨w.heap.size,j,none⟩=some (.int .u8 (t.data.toList.getD j 0).toNat):=fun j hj=>Lib.bytesWorld_cell w 5 t j hj
 have hbel:Below w.heap.size w (Lib.bytesWorld w 5 t):=Lib.bytesWorld_below _ _ _
 obtain⟨W1,hW1⟩:∃ W1,W1=Lib.bytesWorld w 5 t:=⟨_,rfl⟩
 rw [← hW1]at hcv hB hbel
 have hend:=hid (more_of_below hbel)
 clear hW1 hbel
 obtain⟨bs,hL⟩:∃ bs,bs=t.data.toList:=⟨_,rfl⟩
 have hLn:bs.length=t.size:=by rw [hL];simp
 rw [← hL]at hB hd ⊢
 clear hL
 replace hB:=hid hB
 replace hd:=hid hd
 have hmv:IntKind.u64.wrap (IntKind.u64.wrap (2147483647+1) - 1)=2147483647:=by
  rw [IntKind.wrap_u64,IntKind.wrap_u64]
  decide
 simp only [Int.reduceAdd]at hmv
 go_enter Tryz.func181,Tryz.ntmps181
 go_wp2
 go_loop [12,13,101] (fun vu vn vi=>∃(k acc:Nat) (a:Int),vu=.bool false∧vn=.int .u64 a∧vi=.int .i64 k∧k≤t.size∧Hid (a=(acc:Int)∧acc≤2147483647∧Tk.val 10 bs=Tk.va 10 acc (bs.drop k)))
  (fun _ _ vi=>t.size - (intOf vi).toNat)
 case atStart=>exact⟨0,0,0,rfl,rfl,rfl,by omega,rfl,by omega,rfl⟩
 case round =>
  obtain⟨k,acc,a,rfl,rfl,rfl,hk,hh⟩:=hrel
  obtain⟨ha,hacc,hdec⟩:=hh.out
  clear hh
  have a0:0≤a:=by omega
  have a1:a≤2147483647:=by omega
  by_cases hkn:k<t.size
  ·have hc:=hB.out k hkn
   have hdrop:bs.drop k=bs[k]'(by omega)::bs.drop (k+1):=List.drop_eq_getElem_cons (by omega)
   have hget:bs.getD k 0=bs[k]'(by omega):=by simp [List.getD,List.getElem?_eq_getElem (show k<bs.length by omega)]
   have hdc:=hd.out (bs[k]'(by omega)) (List.getElem_mem _)
   rw [hdrop,Tk.va_cons]at hdec
   rw [hget]at hc
   generalize bs[k]'(by omega)=c at hc hdec hdc
   have hc256:c.toNat<256:=c.toNat_lt
   have b95:((c.toNat:Int) == 95)=false:=by
    have:=Tk.digit_le hdc
    simp;omega
   clear hdrop hget
   obtain⟨hd0,hd1,hdg⟩:=Tk.digit_cases hdc
   by_cases hov:2147483647<acc * 10+(c.toNat - 48)
   ·have HF:=hid (show 2147483647<Tk.val 10 bs by rw [hdec];exact Tk.va_range (by decide) (by rw [hdg];exact hov))
    have iov:2147483647<a * 10+((c.toNat:Int) - 48):=by omega
    clear hdec hacc hov ha hdg
    go_wp2
    go_ret2
    exact⟨.inr ⟨HF.out,rfl⟩,hend.out⟩
   ·have HN:Hid (a * 10+((c.toNat:Int) - 48)=((acc * 10+(c.toNat - 48):Nat):Int)∧acc * 10+(c.toNat - 48)≤2147483647∧Tk.val 10 bs=Tk.va 10 (acc * 10+(c.toNat - 48)) (bs.drop (k+1))):=hid ⟨by omega,by omega,by rw [← hdg];exact hdec⟩
    have iov:a * 10+((c.toNat:Int) - 48)≤2147483647:=by omega
    clear hdec hacc hov ha hdg
    go_wp2
    refine⟨⟨k+1,acc * 10+(c.toNat - 48),a * 10+((c.toNat:Int) - 48),rfl,(by first|rfl|(congr 1;omega)),(by first|rfl|(congr 1;omega)),by omega,HN⟩,by simp [intOf];omega⟩
  ·have hkk:k=t.size:=by omega
   subst hkk
   have hF:Tk.va 10 acc (bs.drop t.size)=acc:=by rw [List.drop_eq_nil_of_le (by omega)];rfl
   rw [hF]at hdec
   have HV:=hid hdec
   have HA:=hid ha
   have HM:=hid hacc
   clear hdec hF ha hacc
   go_wp2
   go_ret2
   exact⟨.inl ⟨by rw [HV.out];exact HM.out,by rw [HV.out,← HA.out];rfl⟩,hend.out⟩
structure Gs(w:World):Prop where
 tab:Lib.TabIs Tryz.prog w "strings.asciiSpace" .u8 Lib.asciiSpaceTab
 err:∃ ev,w.var? Tryz.prog "strconv.ErrRange" = some #[ev]∧(ev=.nilIface∨∃ te pe,ev=.iface te pe)
theorem g_err:Tryz.prog.globalNamed "strconv.ErrRange" = some 3:=by kernel_rfl
theorem g_tab:Tryz.prog.globalNamed "strings.asciiSpace" = some 0:=by kernel_rfl
theorem Gs.below{w w':World}(h:Gs w)(hb:Below w.heap.size w w'):Gs w':=by
 obtain⟨ev,h4,h5⟩:=h.err
 exact⟨Go.Joins.var_stays g_tab h.tab hb (Nat.le_refl _),ev,Go.Joins.var_stays g_err h4 hb (Nat.le_refl _),h5⟩
theorem Gs.cell{w:World}(h:Gs w):∃ ev,w.cell? ⟨3,0,none⟩=some ev∧(ev=.nilIface∨∃ te pe,ev=.iface te pe):=by
 obtain⟨ev,h4,h5⟩:=h.err
 exact⟨ev,by rw [var?_cell g_err h4];rfl,h5⟩
theorem toErr_any(t:ByteArray)(B bits:Int)(w:World)(hg:Gs w)(hmax:t.size<4294967281) :
  Calls Tryz.prog 182 #[.string ⟨#[80,97,114,115,101,85,105,110,116]⟩,.string t,.int .i64 B,.int .i64 bits,.iface 274 (.int .i64 1)] w fun e w'=>(∃ te pe,e=.returned (.iface te pe))∧∃ g,w'=more w g:=by
 obtain⟨ev,h1,h2⟩:=hg.cell
 refine(Tryz.strconv_toError_range ⟨#[80,97,114,115,101,85,105,110,116]⟩ t B bits ev w (by omega) h1 h2).mono ?_
 rintro e w' ⟨N,rfl,_,_,hb⟩
 exact⟨⟨_,_,rfl⟩,more_of_below hb⟩
theorem pu_of(t:ByteArray)(B bits:Int)(M v:Nat)(w:World)(hg:Gs w)(hmax:t.size<4294967281)
  (hin:Calls Tryz.prog 181 #[.string t,.int .i64 B,.int .i64 bits] w fun e w' =>
   ((v≤M∧e=.returned (.tuple #[.int .u64 v,.nilIface]))∨(M<v∧e=.returned (.tuple #[.int .u64 M,.iface 274 (.int .i64 1)])))∧∃ g,w'=more w g) :
  Calls Tryz.prog 143 #[.string t,.int .i64 B,.int .i64 bits] w fun e w' =>
   ((v≤M∧e=.returned (.tuple #[.int .u64 v,.nilIface]))∨(M<v∧∃ te pe,e=.returned (.tuple #[.int .u64 M,.iface te pe])))∧∃ g,w'=more w g:=by
 by_cases hv:v≤M
 ·have hin:Calls Tryz.prog 181 #[.string t,.int .i64 B,.int .i64 bits] w fun e w'=>e=.returned (.tuple #[.int .u64 v,.nilIface])∧∃ g,w'=more w g:=
   hin.mono fun e w' ⟨h1,h2⟩=>⟨by rcases h1 with h|h;exact h.2;omega,h2⟩
  go_enter Tryz.func143,Tryz.ntmps143
  go_wp2_with (go_at_call 181;refine hin.mono ?_;rintro e w' ⟨rfl,g,rfl⟩)
  go_ret2
  exact⟨.inl ⟨hv,rfl⟩,_,rfl⟩
 ·have hin:Calls Tryz.prog 181 #[.string t,.int .i64 B,.int .i64 bits] w fun e w'=>e=.returned (.tuple #[.int .u64 M,.iface 274 (.int .i64 1)])∧∃ g,w'=more w g:=
   hin.mono fun e w' ⟨h1,h2⟩=>⟨by rcases h1 with h|h;omega;exact h.2,h2⟩
  go_enter Tryz.func143,Tryz.ntmps143
  go_wp2_with (go_at_call 181;refine hin.mono ?_;rintro e w' ⟨rfl,g,rfl⟩)
  refine(toErr_any t B bits _ (hg.below bT) hmax).mono ?_
  rintro e w' ⟨⟨te,pe,rfl⟩,g',rfl⟩
  go_wp2
  go_ret2
  exact⟨.inr ⟨by omega,_,_,rfl⟩,more_of_below bT⟩
namespace Tk
theorem hp_take(l p:List UInt8):Lib.hasPrefix l p=(l.take p.length == p):=by
 rw [← Lib.hasPrefix_of_take]
 by_cases h:p.length≤l.length
 ·simp [h]
 ·have:(l.take p.length == p)=false:=by
   rw [beq_eq_false_iff_ne]
   intro e
   have:=congrArg List.length e
   simp only [List.length_take]at this
   omega
  simp [h,this]
theorem numT_at(s:ByteArray){n:Nat}(hT:(s.data.toList.takeWhile hexa).length=n) :
  numT s.data.toList =
   if (s.data.toList.drop n).take 1=[72]then(if val 16 (s.extract 0 n).data.toList<4294967296 then .ok (3,[],Sp.sgn (val 16 (s.extract 0 n).data.toList),n+1)else .error 91)
   else if (s.data.toList.drop n).take 1=[88]then(if val 16 (s.extract 0 n).data.toList<256 then .ok (4,[],val 16 (s.extract 0 n).data.toList,n+1)else .error 91)
   else if (!(s.extract 0 n).data.toList.all digit || dots (s.data.toList.drop n))=true then .error 90
   else if val 10 (s.extract 0 n).data.toList<2147483648 then .ok (3,[],val 10 (s.extract 0 n).data.toList,n)else .error 91:=by
 have h0:=tw_extract s hexa (i:=0) (k:=n) (by simpa using hT)
 simp only [List.drop_zero]at h0
 unfold numT
 simp only [hT]
 rw [h0]
theorem extract_hexa(s:ByteArray){n:Nat}(hT:(s.data.toList.takeWhile hexa).length=n):∀ c∈(s.extract 0 n).data.toList,hexa c=true:=by
 have h0:=tw_extract s hexa (i:=0) (k:=n) (by simpa using hT)
 simp only [List.drop_zero]at h0
 rw [← h0]
 intro c hc
 exact List.all_eq_true.1 (List.all_takeWhile (l:=s.data.toList) (p:=hexa)) c hc
theorem tw_lt(p:UInt8→Bool)(l:List UInt8):(l.takeWhile p).length<l.length ↔ l.all p=false:=by
 induction l with
 | nil=>simp
 | cons a t ih =>
  rw [List.takeWhile_cons,List.all_cons]
  cases hp:p a
  ·simp
  ·simp [ih]
theorem rest_list(s:ByteArray)(n:Nat):(s.extract n s.size).data.toList=s.data.toList.drop n:=by
 rw [extract_list,List.take_of_length_le (by simp)]
theorem extract_size(s:ByteArray)(n:Nat)(h:n≤s.size):(s.extract 0 n).size=n:=by simp;omega
theorem extract_rest_size(s:ByteArray)(n:Nat):(s.extract n s.size).size=s.size - n:=by simp
end Tk
theorem hp_any{t p:ByteArray}{b:Bool}(h:Lib.hasPrefix t.data.toList p.data.toList=b)(w:World) :
  Calls Tryz.prog 54 #[.string t,.string p] w fun e w'=>e=.returned (.bool b)∧w'=w:=by
 subst h;exact Tryz.strings_HasPrefix t p w
theorem run_at{s:ByteArray}{b n:Nat}{p:UInt8→Bool}(hT:(s.data.toList.takeWhile p).length=n)(hs:s.size<4294967281)(w:World)(ht:Tk.Tab w b p) :
  Calls Tryz.prog 92 #[.string s,.pointer (some ⟨b,0,none⟩)] w fun e w'=>e=.returned (.int .i64 n)∧∃ g,w'=more w g:=by
 subst hT
 refine(run_any s b p w hs ht.1 ht.2).mono ?_
 rintro e w' ⟨he,k,rfl⟩
 exact⟨he,more_of_below (below_drewN (Below.refl _ _) k)⟩
theorem ranged_any(b:Bool)(w:World):Calls Tryz.prog 144 #[.bool b] w fun e w'=>e=.returned (.int .i64 (if b then 0 else 91))∧w'=w:=by
 cases b <;>(go_enter Tryz.func144,Tryz.ntmps144;go_wp2;go_ret;exact⟨rfl,rfl⟩)
theorem pu1_ok{t:ByteArray}{v:Nat}(hne:t.size ≠ 0)(hmax:t.size<4294967281)(hd:∀ c∈t.data.toList,Tk.hexa c=true)(hv:Tk.val 16 t.data.toList=v)(hm:v≤4294967295)(w:World)(hg:Gs w) :
  Calls Tryz.prog 143 #[.string t,.int .i64 16,.int .i64 32] w fun e w'=>e=.returned (.tuple #[.int .u64 v,.nilIface])∧∃ g,w'=more w g:=
 (pu_of t 16 32 4294967295 v w hg hmax (by subst hv;exact puin_16_32 t hne hmax hd w)).mono fun e w' ⟨h1,h2⟩=>⟨by rcases h1 with h|h;exact h.2;omega,h2⟩
theorem pu1_no{t:ByteArray}{v:Nat}(hne:t.size ≠ 0)(hmax:t.size<4294967281)(hd:∀ c∈t.data.toList,Tk.hexa c=true)(hv:Tk.val 16 t.data.toList=v)(hm:4294967295<v)(w:World)(hg:Gs w) :
  Calls Tryz.prog 143 #[.string t,.int .i64 16,.int .i64 32] w fun e w'=>(∃ te pe,e=.returned (.tuple #[.int .u64 4294967295,.iface te pe]))∧∃ g,w'=more w g:=
 (pu_of t 16 32 4294967295 v w hg hmax (by subst hv;exact puin_16_32 t hne hmax hd w)).mono fun e w' ⟨h1,h2⟩=>⟨by rcases h1 with h|h;omega;exact h.2,h2⟩
theorem pu2_ok{t:ByteArray}{v:Nat}(hne:t.size ≠ 0)(hmax:t.size<4294967281)(hd:∀ c∈t.data.toList,Tk.hexa c=true)(hv:Tk.val 16 t.data.toList=v)(hm:v≤255)(w:World)(hg:Gs w) :
  Calls Tryz.prog 143 #[.string t,.int .i64 16,.int .i64 8] w fun e w'=>e=.returned (.tuple #[.int .u64 v,.nilIface])∧∃ g,w'=more w g:=
 (pu_of t 16 8 255 v w hg hmax (by subst hv;exact puin_16_8 t hne hmax hd w)).mono fun e w' ⟨h1,h2⟩=>⟨by rcases h1 with h|h;exact h.2;omega,h2⟩
theorem pu2_no{t:ByteArray}{v:Nat}(hne:t.size ≠ 0)(hmax:t.size<4294967281)(hd:∀ c∈t.data.toList,Tk.hexa c=true)(hv:Tk.val 16 t.data.toList=v)(hm:255<v)(w:World)(hg:Gs w) :
  Calls Tryz.prog 143 #[.string t,.int .i64 16,.int .i64 8] w fun e w'=>(∃ te pe,e=.returned (.tuple #[.int .u64 255,.iface te pe]))∧∃ g,w'=more w g:=
 (pu_of t 16 8 255 v w hg hmax (by subst hv;exact puin_16_8 t hne hmax hd w)).mono fun e w' ⟨h1,h2⟩=>⟨by rcases h1 with h|h;omega;exact h.2,h2⟩
theorem pu3_ok{t:ByteArray}{v:Nat}(hne:t.size ≠ 0)(hmax:t.size<4294967281)(hd:∀ c∈t.data.toList,Tk.digit c=true)(hv:Tk.val 10 t.data.toList=v)(hm:v≤2147483647)(w:World)(hg:Gs w) :
  Calls Tryz.prog 143 #[.string t,.int .i64 10,.int .i64 31] w fun e w'=>e=.returned (.tuple #[.int .u64 v,.nilIface])∧∃ g,w'=more w g:=
 (pu_of t 10 31 2147483647 v w hg hmax (by subst hv;exact puin_10_31 t hne hmax hd w)).mono fun e w' ⟨h1,h2⟩=>⟨by rcases h1 with h|h;exact h.2;omega,h2⟩
theorem pu3_no{t:ByteArray}{v:Nat}(hne:t.size ≠ 0)(hmax:t.size<4294967281)(hd:∀ c∈t.data.toList,Tk.digit c=true)(hv:Tk.val 10 t.data.toList=v)(hm:2147483647<v)(w:World)(hg:Gs w) :
  Calls Tryz.prog 143 #[.string t,.int .i64 10,.int .i64 31] w fun e w'=>(∃ te pe,e=.returned (.tuple #[.int .u64 2147483647,.iface te pe]))∧∃ g,w'=more w g:=
 (pu_of t 10 31 2147483647 v w hg hmax (by subst hv;exact puin_10_31 t hne hmax hd w)).mono fun e w' ⟨h1,h2⟩=>⟨by rcases h1 with h|h;omega;exact h.2,h2⟩
namespace Tk
def wres(s:ByteArray):Int × ByteArray × Int:=if s.data.toList∈keys then(2,s,0)else if 24<s.size then(0,⟨#[]⟩,2)else(1,s,0)
end Tk
theorem word_any(s:ByteArray)(x b1 b2 b3 b4 m:Nat)(w:World)(hs:s.size<4294967281)(hL:Tk.Lx w x b1 b2 b3 b4 m) :
  Calls Tryz.prog 93 #[.pointer (some ⟨x,0,none⟩),.string s] w fun e w'=>e=.returned (.tuple #[Tk.tv (Tk.wres s).1 (Tk.wres s).2.1 0 0,.int .i64 (Tk.wres s).2.2])∧∃ g,w'=more w g:=by
 have x0:=hL.x0
 have c5:=hL.c5
 have HK:=hid hL.ks
 clear hL
 by_cases hk:s.data.toList∈Tk.keys
 ·have hw:Tk.wres s=(2,s,0):=by simp [Tk.wres,hk]
  rw [hw]
  have hn:(if s.data.toList∈Tk.keys then(1:Int)else 0)=1:=if_pos hk
  replace hn:=hid hn
  clear hw hk
  go_enter Tryz.func93,Tryz.ntmps93
  go_wp2_with (at_lookup;refine wpList_keys_look rfl _ _ 157 rfl (HK.out.below (B:=w.heap.size) bT HK.out.lt) rfl rfl Tryz.underlying157 Tryz.underlying9 (by kernel_rfl) hn.out ?_)
  go_returns
  exact⟨rfl,more_of_below bT⟩
 ·have hn:(if s.data.toList∈Tk.keys then(1:Int)else 0)=0:=if_neg hk
  replace hn:=hid hn
  by_cases hl:24<s.size
  ·have hw:Tk.wres s=(0,⟨#[]⟩,2):=by simp [Tk.wres,hk,hl]
   rw [hw]
   clear hw hk
   go_enter Tryz.func93,Tryz.ntmps93
   go_wp2_with (at_lookup;refine wpList_keys_look rfl _ _ 157 rfl (HK.out.below (B:=w.heap.size) bT HK.out.lt) rfl rfl Tryz.underlying157 Tryz.underlying9 (by kernel_rfl) hn.out ?_)
   go_returns
   exact⟨rfl,more_of_below bT⟩
  ·have hw:Tk.wres s=(1,s,0):=by simp [Tk.wres,hk,hl]
   rw [hw]
   clear hw hk
   go_enter Tryz.func93,Tryz.ntmps93
   go_wp2_with (at_lookup;refine wpList_keys_look rfl _ _ 157 rfl (HK.out.below (B:=w.heap.size) bT HK.out.lt) rfl rfl Tryz.underlying157 Tryz.underlying9 (by kernel_rfl) hn.out ?_)
   go_returns
   exact⟨rfl,more_of_below bT⟩
def signText:ByteArray:=⟨#[58,61,32,46,46,32,60,61,32,62,61,32,43,32,45,32,42,32,47,32,38,32,126,32,46,32,44,32,59,32,124,32,40,32,91,32,123,32,94,32,61,32,35,32,60,32,62,32,58,32,41,32,93,32,125]⟩
theorem sign_fields:Lib.fields signText.data.toList=Tk.sgs:=by decide +kernel
theorem sign_ascii:∀(j:Nat) b,signText.data.toList[j]?=some b→b.toNat<128:=by
 intro j b hb
 have:signText.data.toList.all (fun b=>decide (b.toNat<128))=true:=by decide +kernel
 have:=List.all_eq_true.1 this b (List.mem_of_getElem? hb)
 simpa using this
def strCells(l:List (List UInt8)):Array Value:=(l.map fun l=>Value.string ⟨l.toArray⟩).toArray
theorem signs_any(w:World)(hg:Gs w) :
  Calls Tryz.prog 96 #[] w fun e w'=>e=.returned (.slice (some ⟨w.heap.size,0,none⟩) 26 26)∧w'=w.alloc (.cells (strCells Tk.sgs) 9):=by
 have hf:Calls Tryz.prog 90 #[.string signText] w fun e w'=>e=.returned (.slice (some ⟨w.heap.size,0,none⟩) 26 26)∧w'=w.alloc (.cells (strCells Tk.sgs) 9):=
  (Tryz.strings_Fields signText w (by decide) sign_ascii hg.tab).mono fun e w' ⟨h1,h2⟩=>by
   rw [sign_fields]at h1 h2
   exact⟨h1,h2⟩
 replace hf:=hid hf
 go_enter Tryz.func96,Tryz.ntmps96
 go_wp2_with (go_at_call 90;refine hf.out.mono ?_;rintro e w' ⟨rfl,rfl⟩)
 go_ret
 exact⟨rfl,rfl⟩
theorem strCells_at(l:List (List UInt8))(k:Nat)(h:k<l.length):(strCells l)[k]?=some (.string ⟨l[k].toArray⟩):=by
 simp [strCells,h]
theorem hp_beg{s:ByteArray}{l:List UInt8}{b:Bool}(h:Tk.beg s.data.toList l=b)(w:World) :
  Calls Tryz.prog 54 #[.string s,.string ⟨l.toArray⟩] w fun e w'=>e=.returned (.bool b)∧w'=w:=
 hp_any (by rw [Tk.hp_take];simpa [Tk.beg]using h) w
namespace Tk
def rstr(r:Nat × Nat):Value:=.string ⟨#[UInt8.ofNat r.1,UInt8.ofNat r.2]⟩
theorem rngs_snoc(rs:List (Nat × Nat))(k:Nat)(h:k<rs.length):rngs (rs.take (k+1))=rngs (rs.take k)++rng rs[k].1 rs[k].2:=by
 unfold rngs
 rw [List.take_succ,List.getElem?_eq_getElem h,List.flatMap_append]
 simp
theorem zero_table:Tryz.zeroCells200=Lib.setCells []:=by kernel_rfl
theorem set_next(l:List UInt8)(lo hi i:Nat)(h:lo+i≤hi)(h2:hi<256):(Lib.setCells (l++(rng lo hi).take i)).setIfInBounds (lo+i) (.bool true)=Lib.setCells (l++(rng lo hi).take (i+1)):=by
 rw [rng_at lo hi i h,← List.append_assoc,Lib.setCells_snoc]
 congr 1
 simp;omega
end Tk
theorem of_any(v:Value)(rs:List (Nat × Nat))(w:World)(hR:Reads w v rs.length 1 (rs.map Tk.rstr))(hne:0<rs.length)(hr:∀ r∈rs,r.1≤r.2∧r.2<256) :
  Calls Tryz.prog 89 #[v] w fun e w'=>e=.returned (.pointer (some ⟨w.heap.size,0,none⟩))∧w'=w.alloc (.cells (Lib.setCells (Tk.rngs rs)) 200):=by
 rcases hR.2 with⟨h0,-⟩|⟨b,off,cap,rfl,hnc,hcm,hbl,hc⟩
 ·omega
 have hl64:cap≤9223372036854775807:=by unfold maxLen at hcm;omega
 have HC:=hid (fun k (h:k<rs.length)=>hc k (Tk.rstr rs[k]) (by simp [h]))
 have HR:=hid hr
 clear hc hR hr
 have HZ:=hid Tk.zero_table
 go_enter Tryz.func89,Tryz.ntmps89
 go_wp2
 rw [Tk.zero_table]
 go_loopw [9] (fun i wr=>∃ k:Nat,k≤rs.length∧i=.int .i64 k∧wr=w.alloc (.cells (Lib.setCells (Tk.rngs (rs.take k))) 200)) (fun i _=>rs.length - (intOf i).toNat)
 case atStart=>exact⟨0,by omega,rfl,rfl⟩
 case round =>
  obtain⟨k,hk,rfl,rfl⟩:=hrel
  by_cases hlt:k<rs.length
  ·have hck:=HC.out k hlt
   have hrk:=HR.out _ (List.getElem_mem hlt)
   have HS:=hid (Tk.rngs_snoc rs k hlt)
   generalize rs[k]=r at *
   obtain⟨lo,hi⟩:=r
   simp only at hrk HS
   obtain⟨hr1,hr2⟩:=hrk
   obtain⟨a,rfl⟩:∃ a:UInt8,a.toNat=lo:=⟨UInt8.ofNat lo,by simp;omega⟩
   obtain⟨z,rfl⟩:∃ z:UInt8,z.toNat=hi:=⟨UInt8.ofNat hi,by simp;omega⟩
   simp only [Tk.rstr,UInt8.ofNat_toNat]at hck
   have hza:z.toNat<256:=z.toNat_lt
   obtain⟨S,hS⟩:∃ S:ByteArray,S=⟨#[a,z]⟩:=⟨_,rfl⟩
   have hS2:S.size=2:=by rw [hS];rfl
   have hS0:S[0]'(by omega)=a:=by subst hS;rfl
   have hS1:S[1]'(by omega)=z:=by subst hS;rfl
   rw [← hS]at hck
   clear hS
   have wa:=hid <| show wrap64 (a.toNat:Int)=a.toNat by unfold wrap64;omega
   have wz:=hid <| show wrap64 (z.toNat:Int)=z.toNat by unfold wrap64;omega
   go_wp2
   go_loopw [6] (fun i wr=>∃ j:Nat,a.toNat+j≤z.toNat+1∧i=.int .i64 ((a.toNat+j:Nat):Int)∧wr=w.alloc (.cells (Lib.setCells (Tk.rngs (rs.take k)++(Tk.rng a.toNat z.toNat).take j)) 200)) (fun i _=>z.toNat+1 - (intOf i).toNat)
   case atStart=>exact⟨0,by omega,rfl,by simp⟩
   case round =>
    obtain⟨j,hj,rfl,rfl⟩:=hrel
    by_cases hjl:a.toNat+j≤z.toNat
    ·have HN:=hid (Tk.set_next (Tk.rngs (rs.take k)) a.toNat z.toNat j hjl hza)
     have hsz:=Lib.setCells_size (Tk.rngs (rs.take k)++(Tk.rng a.toNat z.toNat).take j)
     generalize Lib.setCells (Tk.rngs (rs.take k)++(Tk.rng a.toNat z.toNat).take j)=T at *
     generalize hq:a.toNat+j=q at *
     obtain⟨v0,hT0⟩:∃ v0,T[q]?=some v0:=⟨T[q]'(by omega),Array.getElem?_eq_getElem (by omega)⟩
     go_wp2
     refine⟨⟨j+1,by omega,by rw [← hq];simp;omega,by rw [HN.out]⟩,by simp [intOf];omega⟩
    ·have hje:j=z.toNat+1 - a.toNat:=by omega
     have hjq:a.toNat+j=z.toNat+1:=by omega
     have HE:=hid (show Tk.rngs (rs.take k)++(Tk.rng a.toNat z.toNat).take j=Tk.rngs (rs.take (k+1))by
      have hl:=Tk.rng_len a.toNat z.toNat
      rw [HS.out,List.take_of_length_le (l:=Tk.rng a.toNat z.toNat) (by omega)])
     rw [HE.out,hjq]
     clear hje hjq hjl hj
     go_wp2
     refine⟨⟨k+1,by omega,by simp,rfl⟩,by simp [intOf];omega⟩
  ·have hke:k=rs.length:=by omega
   subst hke
   go_wp2
   go_ret
   exact⟨rfl,by first|rfl|rw [List.take_length]⟩
def keyText:ByteArray:=⟨#[65,82,82,65,89,32,66,69,71,73,78,32,66,89,32,67,65,83,69,32,67,79,78,83,84,32,68,73,86,32,68,79,32,69,76,83,69,32,69,76,83,73,70,32,69,78,68,32,70,65,76,83,69,32,70,79,82,32,73,70,32,73,77,80,79,82,84,32,73,78,32,73,83,32,77,79,68,32,77,79,68,85,76,69,32,78,73,76,32,79,70,32,79,82,32,80,79,73,78,84,69,82,32,80,82,79,67,69,68,85,82,69,32,82,69,67,79,82,68,32,82,69,80,69,65,84,32,82,69,84,85,82,78,32,84,72,69,78,32,84,79,32,84,82,85,69,32,84,89,80,69,32,85,78,84,73,76,32,86,65,82,32,87,72,73,76,69]⟩
theorem key_fields:Lib.fields keyText.data.toList=Tk.keys:=by decide +kernel
theorem key_ascii:∀(j:Nat) b,keyText.data.toList[j]?=some b→b.toNat<128:=by
 intro j b hb
 have:keyText.data.toList.all (fun b=>decide (b.toNat<128))=true:=by decide +kernel
 have:=List.all_eq_true.1 this b (List.mem_of_getElem? hb)
 simpa using this
theorem reads_litp(w:World)(p:Nat)(cs:Array Value)(e:TypeId)(n size:Nat)(xs:List Value)(hm:n≤maxLen)(hs:cs.size=n * size)(hx:cs.toList=xs)(hp:p=w.heap.size):Reads (w.alloc (.cells cs e)) (.slice (some ⟨p,0,none⟩) n n) n size xs:=by
 subst hp;subst hx;exact reads_lit w cs e n size hm hs
theorem key_fresh(k:Nat)(h:k<Tk.keys.length):Tk.keys[k] ∉ Tk.keys.take k:=by
 intro hm
 obtain⟨i,hi,he⟩:=List.mem_take_iff_getElem.1 hm
 have:=(List.getElem_inj Tk.keys_nodup).1 he
 omega
theorem fields_keys(s:ByteArray)(hs:s=keyText)(W:World)(n:Nat)(hn:n=W.heap.size)(hg:Gs W) :
  Calls Tryz.prog 90 #[.string s] W fun e w'=>e=.returned (.slice (some ⟨n,0,none⟩) 33 33)∧w'=W.alloc (.cells (strCells Tk.keys) 9):=by
 subst hs hn
 refine(Tryz.strings_Fields keyText W (of_decide_eq_true (by kernel_rfl)) key_ascii hg.tab).mono fun e w' ⟨h1,h2⟩=>?_
 rw [key_fields]at h1 h2
 exact⟨h1,h2⟩
theorem Tk.Tab.alloc{w:World}{b:Nat}{p:UInt8→Bool}(h:Tk.Tab w b p)(o:Obj):Tk.Tab (w.alloc o) b p:=h.keep ((Below.refl w.heap.size w).alloc (Nat.le_refl _) o) h.1
theorem Tk.tab_new(X:World)(l:List UInt8)(p:UInt8→Bool)(n:Nat)(t:TypeId)(hp:∀ c,l.contains c=p c)(hn:n=X.heap.size):Tk.Tab (X.alloc (.cells (Lib.setCells l) t)) n p:=by
 subst hn
 refine⟨by simp,fun c=>?_⟩
 rw [← hp c,← Lib.setCells_at]
 simp [go_sem]
theorem KeysIn.alloc{w:World}{b:Nat}{ws:List (List UInt8)}(h:KeysIn w b ws)(o:Obj):KeysIn (w.alloc o) b ws:=h.below ((Below.refl w.heap.size w).alloc (Nat.le_refl _) o) h.lt
theorem keys_new(X:World)(n:Nat)(hn:n=X.heap.size):KeysIn (X.alloc (.map #[] 0)) n []:=by
 subst hn
 exact⟨#[],0,(MapKept.heap_alloc X _).1,rfl⟩
theorem keys_take(k:Nat)(h:k<Tk.keys.length):Tk.keys.take k++[Tk.keys[k]]=Tk.keys.take (k+1):=by
 rw [List.take_succ,List.getElem?_eq_getElem h];rfl
theorem begun_any(w:World)(hg:Gs w) :
  Calls Tryz.prog 53 #[] w fun e w'=>(∃ x b1 b2 b3 b4 m,e=.returned (.pointer (some ⟨x,0,none⟩))∧Tk.Lx w' x b1 b2 b3 b4 m)∧∃ g,w'=more w g:=by
 have hmm:=@run_makeMap Tryz.prog
 go_enter Tryz.func53,Tryz.ntmps53
 go_wp2_with (go_at_call 89;first
  | ((with_reducible refine(of_any _ [(97,122),(65,90)] _ ?_ (by decide) (by decide)).mono ?_);(focus(exact reads_litp _ _ _ _ 2 1 _ (by decide) rfl rfl (by simp)));rintro e w' ⟨rfl,rfl⟩)
  | ((with_reducible refine(of_any _ [(97,122),(65,90),(48,57)] _ ?_ (by decide) (by decide)).mono ?_);(focus(exact reads_litp _ _ _ _ 3 1 _ (by decide) rfl rfl (by simp)));rintro e w' ⟨rfl,rfl⟩)
  | ((with_reducible refine(of_any _ [(48,57)] _ ?_ (by decide) (by decide)).mono ?_);(focus(exact reads_litp _ _ _ _ 1 1 _ (by decide) rfl rfl (by simp)));rintro e w' ⟨rfl,rfl⟩)
  | ((with_reducible refine(of_any _ [(48,57),(65,70)] _ ?_ (by decide) (by decide)).mono ?_);(focus(exact reads_litp _ _ _ _ 2 1 _ (by decide) rfl rfl (by simp)));rintro e w' ⟨rfl,rfl⟩))
 refine(fields_keys _ (by kernel_rfl) _ (w.heap.size+1+1+1+1+1+1+1+1+1+1) (by simp) ?_).mono ?_
 ·exact hg.below bT
 rintro e w' ⟨rfl,rfl⟩
 generalize hW:World.alloc _ (.cells (strCells Tk.keys) 9)=W
 have hB:Below w.heap.size w W:=by rw [← hW];exact bT
 have T1:Tk.Tab W (w.heap.size+1) Tk.letter:=by
  rw [← hW];repeat' (first|(exact Tk.tab_new _ _ _ _ _ Tk.tab_letter (by simp))|refine Tk.Tab.alloc ?_ _)
 have T2:Tk.Tab W (w.heap.size+1+1+1) Tk.inside:=by
  rw [← hW];repeat' (first|(exact Tk.tab_new _ _ _ _ _ Tk.tab_inside (by simp))|refine Tk.Tab.alloc ?_ _)
 have T3:Tk.Tab W (w.heap.size+1+1+1+1+1) Tk.digit:=by
  rw [← hW];repeat' (first|(exact Tk.tab_new _ _ _ _ _ Tk.tab_digit (by simp))|refine Tk.Tab.alloc ?_ _)
 have T4:Tk.Tab W (w.heap.size+1+1+1+1+1+1+1) Tk.hexa:=by
  rw [← hW];repeat' (first|(exact Tk.tab_new _ _ _ _ _ Tk.tab_hexa (by simp))|refine Tk.Tab.alloc ?_ _)
 have K0:KeysIn W (w.heap.size+1+1+1+1+1+1+1+1) []:=by
  rw [← hW];repeat' (first|(exact keys_new _ _ (by simp))|refine KeysIn.alloc ?_ _)
 have x0:W.cell? ⟨w.heap.size+1+1+1+1+1+1+1+1+1,0,none⟩=some (.pointer (some ⟨w.heap.size+1,0,none⟩)):=by rw [← hW];simp [go_sem]
 have x1:W.cell? ⟨w.heap.size+1+1+1+1+1+1+1+1+1,1,none⟩=some (.pointer (some ⟨w.heap.size+1+1+1,0,none⟩)):=by rw [← hW];simp [go_sem]
 have x2:W.cell? ⟨w.heap.size+1+1+1+1+1+1+1+1+1,2,none⟩=some (.pointer (some ⟨w.heap.size+1+1+1+1+1,0,none⟩)):=by rw [← hW];simp [go_sem]
 have x3:W.cell? ⟨w.heap.size+1+1+1+1+1+1+1+1+1,3,none⟩=some (.pointer (some ⟨w.heap.size+1+1+1+1+1+1+1,0,none⟩)):=by rw [← hW];simp [go_sem]
 have x4:W.cell? ⟨w.heap.size+1+1+1+1+1+1+1+1+1,4,none⟩=some (.map (some (w.heap.size+1+1+1+1+1+1+1+1))):=by rw [← hW];simp [go_sem]
 have f0:∀ k (h:k<Tk.keys.length),W.cell? ⟨w.heap.size+1+1+1+1+1+1+1+1+1+1,k,none⟩=some (.string ⟨Tk.keys[k].toArray⟩):=by
  intro k h
  rw [← strCells_at Tk.keys k h,← hW];simp [go_sem]
 have hsz:W.heap.size=w.heap.size+1+1+1+1+1+1+1+1+1+1+1:=by rw [← hW];simp
 clear hW
 generalize hmb:w.heap.size+1+1+1+1+1+1+1+1=mb at *
 have xs:mb+1<W.heap.size:=by omega
 have h1:w.heap.size+1<mb:=by omega
 have h2:w.heap.size+1+1+1<mb:=by omega
 have h3:w.heap.size+1+1+1+1+1<mb:=by omega
 have h4:w.heap.size+1+1+1+1+1+1+1<mb:=by omega
 have h5:w.heap.size≤mb:=by omega
 clear hsz hmb
 generalize w.heap.size+1+1+1+1+1+1+1=p4 at *
 generalize w.heap.size+1+1+1+1+1=p3 at *
 generalize w.heap.size+1+1+1=p2 at *
 generalize w.heap.size+1=p1 at *
 have hkl:=Tk.keys_len
 replace T1:=hid T1
 replace T2:=hid T2
 replace T3:=hid T3
 replace T4:=hid T4
 replace x0:=hid x0
 replace x1:=hid x1
 replace x2:=hid x2
 replace x3:=hid x3
 replace f0:=hid f0
 replace hB:=hid hB
 go_wp2
 go_loopw [17] (fun i wr=>∃ k:Nat,k≤33∧i=.int .i64 k∧KeysIn wr mb (Tk.keys.take k)∧wr.heap.size=W.heap.size∧(∀ j,j ≠ mb→wr.heap[j]?=W.heap[j]?)∧Below mb W wr) (fun i _=>33 - (intOf i).toNat)
 case atStart=>exact⟨0,by omega,rfl,by simpa using K0,rfl,fun _ _=>rfl,Below.refl _ _⟩
 case round =>
  obtain⟨k,hk,rfl,hK,hS,hO,hBl⟩:=hrel
  have c4:wr.cell? ⟨mb+1,4,none⟩=some (.map (some mb)):=(World.cell?_of_block (hO (mb+1) (by omega))).trans x4
  replace hK:=hid hK
  replace hO:=hid hO
  replace hBl:=hid hBl
  by_cases hlt:k<33
  ·have ck:wr.cell? ⟨mb+1+1,k,none⟩=some (.string ⟨Tk.keys[k].toArray⟩):=(World.cell?_of_block (hO.out (mb+1+1) (by omega))).trans (f0.out k (by omega))
   have hf:=hid (key_fresh k (by omega))
   have ht:=hid (keys_take k (by omega))
   generalize Tk.keys[k]=kw at *
   go_wp2_with (at_mapUpdate;refine wpList_keys_put rfl _ _ _ 157 rfl hK.out rfl rfl rfl Tryz.underlying157 Tryz.underlying9 rfl hf.out ?_;intro W' q1 q2 q3 q4)
   refine⟨⟨k+1,by omega,by simp,by rw [← ht.out];exact q1,q2.trans hS,fun j hj=>(q3 j hj).trans (hO.out j hj),hBl.out.trans q4⟩,by simp [intOf];omega⟩
  ·have hke:k=33:=by omega
   subst hke
   go_wp2
   go_ret
   have xk:∀ o,wr.cell? ⟨mb+1,o,none⟩=W.cell? ⟨mb+1,o,none⟩:=fun o=>World.cell?_of_block (hO.out (mb+1) (by omega))
   have hK':=hK.out
   rw [List.take_of_length_le (by omega)]at hK'
   exact⟨⟨mb+1,p1,p2,p3,p4,mb,rfl,⟨by rw [hS];exact xs,(xk 0).trans x0.out,(xk 1).trans x1.out,(xk 2).trans x2.out,(xk 3).trans x3.out,c4,T1.out.keep hBl.out h1,T2.out.keep hBl.out h2,T3.out.keep hBl.out h3,T4.out.keep hBl.out h4,hK'⟩⟩,more_of_below (hB.out.trans (hBl.out.mono h5))⟩
end Go.Proofs.YtlhmkfcbldghfaaGreatDoor
