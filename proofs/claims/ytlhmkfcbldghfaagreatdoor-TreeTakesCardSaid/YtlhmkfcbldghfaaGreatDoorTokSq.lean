/- The walk of the library's formatBits at base 16,and of FormatUint there. Conditions: the table of deBruijn's is as it was laid,at one place;the number is a word of 32 bits. -/
import Derived.Test.YtlhmkfcbldghfaaGreatDoorTokI
import Derived.Test.YtlhmkfcbldghfaaGreatDoorTkC
import Derived.Laws.BytesArg
import Derived.Test.YtlhmkfcbldghfaaGreatDoorShelfB
import Derived.Test.YtlhmkfcbldghfaaGreatDoorTkD
import Derived.Test.YtlhmkfcbldghfaaGreatDoorTkA
import Derived.Test.YtlhmkfcbldghfaaGreatDoorTokE
import Derived.BigQuiet
import Derived.Deep.CutBlock
import Derived.Deep.DeepCutAuto
import Derived.Laws.StructEq
import Derived.Lib.ItoaLen
namespace Go.Proofs.YtlhmkfcbldghfaaGreatDoor
set_option linter.all false
open Go.Lib (hid)
set_option maxRecDepth 1000000
set_option maxHeartbeats 16000000
open Go.RowKit
theorem tz16_any(w:World)(hdb:w.cell? ⟨10,15,none⟩=some (.int .u8 4)) :
  Calls Tryz.prog 255 #[.int .u64 16] w fun e w'=>e=.returned (.int .i64 4)∧w'=w:=by
 have h1:IntKind.u64.wrap (-16)=18446744073709551600:=by rw [IntKind.wrap_u64];decide
 have h2:bits .and .u64 16 18446744073709551600=16:=by decide +kernel
 have h3:IntKind.u64.wrap (16 * 285870213051353865)=4573923408821661840:=by rw [IntKind.wrap_u64];decide
 go_enter Tryz.func255,Tryz.ntmps255
 go_wp2
 go_ret
 exact⟨rfl,rfl⟩
theorem pow16_any(w:World):Calls Tryz.prog 254 #[.int .i64 16] w fun e w'=>e=.returned (.bool true)∧w'=w:=by
 have h2:bits .and .i64 16 15=0:=by decide +kernel
 go_enter Tryz.func254,Tryz.ntmps254
 go_wp2
 go_ret
 exact⟨rfl,rfl⟩
theorem convert_drop{W:World}{b i:Nat}{A:Array Value}{t:TypeId}{l:List UInt8}(hA:A.size=65)(hi:i+l.length=65)(hl:A.toList.drop i=Tk.byteCells l)(cap:Nat) :
  (convert 132 9 (.slice (some ⟨(W:World).heap.size,i,none⟩) l.length cap)).run Tryz.prog (W.alloc (.cells A t))=.ok (.string ⟨l.toArray⟩) (W.alloc (.cells A t)):=by
 have:=run_convert_bytes_arg (P:=Tryz.prog) (W.alloc (.cells A t)) 132 5 Tryz.underlying132 Tryz.underlying5 W.heap.size i l.length cap (l.map fun c=>(c.toNat:Int)) (by simp) (fun j hj=>?_) 9 Tryz.underlying9
 ·have hs:strOfNums (l.map fun c=>(c.toNat:Int))=⟨l.toArray⟩:=by
   apply ByteArray.ext
   have hm:(l.map fun c=>(c.toNat:Int)).map (fun n=>UInt8.ofNat n.toNat)=l:=by
    rw [List.map_map]
    conv=>rhs;rw [← List.map_id l]
    refine List.map_congr_left fun c _=>?_
    simp
   show(((l.map fun c=>(c.toNat:Int)).map (fun n=>UInt8.ofNat n.toNat)).toArray:Array UInt8)=l.toArray
   rw [hm]
  rw [this,hs]
 ·have hc:(W.alloc (.cells A t)).cell? ⟨W.heap.size,i+j,none⟩=A[i+j]?:=by simp [go_sem]
  rw [hc,← Array.getElem?_toList,← List.getElem?_drop,hl]
  simp [Tk.byteCells,hj,List.getD]
theorem fb16_any(u:Nat)(hu:u<4294967296)(w:World)(hdb:w.cell? ⟨10,15,none⟩=some (.int .u8 4)) :
  Calls Tryz.prog 245 #[.slice none 0 0,.int .u64 u,.int .i64 16,.bool false,.bool false] w fun e w'=>e=.returned (.tuple #[.slice none 0 0,.string ⟨(Tk.lexN16 u).toArray⟩])∧∃ g,w'=more w g:=by
 have hdb2:∀ o:Obj,(w.alloc o).cell? ⟨10,15,none⟩=some (.int .u8 4):=fun o=>by
  have hlt:10<w.heap.size:=World.block_lt_of_cell? _ _ hdb
  simp [go_sem,hlt,hdb]
 obtain⟨A0,hA0,hZ⟩:∃ A0:Array Value,A0.size=65∧Tryz.zeroCells317=A0:=⟨_,by kernel_rfl,rfl⟩
 go_enter Tryz.func245,Tryz.ntmps245
 go_wp2_with (first|(go_at_call 255;(with_reducible refine(tz16_any _ ?_).mono ?_);(focus(exact hdb2 _));rintro e w2 ⟨rfl,rfl⟩)|(go_at_call 254;(with_reducible refine(pow16_any _).mono ?_);rintro e w2 ⟨rfl,rfl⟩))
 clear hZ
 go_loopw [1,13] (fun su si wr=>∃(uk i:Nat) (a:Int) (l:List UInt8) (A:Array Value),su=.int .u64 a∧si=.int .i64 i∧wr=w.alloc (.cells A 317)∧A.size=65∧i+l.length=65∧58≤i∧0≤a∧a<4294967296∧Hid (a=(uk:Int)∧uk<16 ^ (8 - l.length)∧A.toList.drop i=Tk.byteCells l∧Tk.lexN16 u=Tk.lexN16 uk++l)) (fun su _ _=>(intOf su).toNat)
 case atStart=>exact⟨u,65,u,[],A0,rfl,rfl,rfl,hA0,by simp,by omega,by omega,by omega,hid ⟨rfl,by simpa using hu,by rw [List.drop_eq_nil_of_le (by simp [hA0])];rfl,by simp⟩⟩
 case round =>
  obtain⟨uk,i,a,l,A,rfl,rfl,rfl,hAs,hil,hi,ha0,ha1,H⟩:=hrel
  obtain⟨hau,hub,hdr,hlx⟩:=H.out
  clear H
  have hidx:i=65 - l.length:=by omega
  obtain⟨j,rfl⟩:∃ j,i=j+1:=⟨i - 1,by omega⟩
  have hdl:uk % 16<16:=Nat.mod_lt _ (by decide)
  have hand:bits .and .u64 a 15=((uk % 16:Nat):Int):=by rw [hau];exact Tk.and15 uk (by omega)
  by_cases hge:(16:Int)≤a
  ·have h58:58≤j:=by
    have:l.length≤6:=by
     rcases Nat.lt_or_ge l.length 7 with h|h
     ·omega
     ·exfalso
      have:8 - l.length≤1:=by omega
      have:16 ^ (8 - l.length)≤16 ^ 1:=Nat.pow_le_pow_right (by decide) this
      omega
    omega
   have hub2:uk / 16<16 ^ (8 - (l.length+1)):=by
    have:16 ^ (8 - l.length)=16 ^ (8 - (l.length+1)) * 16:=by rw [← Nat.pow_succ];congr 1;omega
    rw [this]at hub
    exact Nat.div_lt_of_lt_mul (by rw [Nat.mul_comm];exact hub)
   have hset:=Tk.set_drop (i:=j) (by omega) hdr (Value.int .u8 ((Tk.lx (uk % 16)).toNat:Int))
   have HN:=hid (show a / 16=((uk / 16:Nat):Int)∧uk / 16<16 ^ (8 - (Tk.lx (uk % 16)::l).length)∧(A.setIfInBounds j (.int .u8 ((Tk.lx (uk % 16)).toNat:Int))).toList.drop j=Tk.byteCells (Tk.lx (uk % 16)::l)∧Tk.lexN16 u=Tk.lexN16 (uk / 16)++(Tk.lx (uk % 16)::l)from
    ⟨by rw [hau];omega,hub2,hset.1,by rw [hlx,Tk.lexN16_big (by omega)];simp⟩)
   have hdv:0≤a / 16∧a / 16<a:=by omega
   have hz2:=hset.2
   have hdig:=hid (Tk.digs_at (uk % 16) hdl)
   have hjA:j<A.size:=by omega
   obtain⟨v0,hv0⟩:∃ v0,A[j]?=some v0:=⟨A[j],Array.getElem?_eq_getElem hjA⟩
   clear hau hub hdr hlx hub2 hset hidx
   generalize uk % 16=d at *
   go_wp2
   obtain⟨h1,h2,h3,h4⟩:=HN.out
   refine⟨⟨uk / 16,j,a / 16,Tk.lx d::l,A.setIfInBounds j (.int .u8 ((Tk.lx d).toNat:Int)),rfl,rfl,?_,by omega,by simp;omega,by omega,hdv.1,by omega,hid ⟨h1,h2,h3,h4⟩⟩,?_⟩
   ·rw [← hdig.out (by show d<36;omega)]
   ·simp only [intOf];omega
  ·have hub16:uk<16:=by omega
   have ha16:a<16:=by omega
   have hmod:uk % 16=uk:=Nat.mod_eq_of_lt hub16
   have hset:=Tk.set_drop (i:=j) (by omega) hdr (Value.int .u8 ((Tk.lx uk).toNat:Int))
   have hcv:=fun cap=>convert_drop (W:=w) (b:=0) (t:=317) (l:=Tk.lx uk::l) (i:=j) (by simpa using hAs) (by simp;omega) hset.1 cap
   rw [List.length_cons]at hcv
   have hal:Tryz.prog.arrayLen 317=65:=by simp [Program.arrayLen,Tryz.underlying317]
   have hsl:∀ W,(Instr.sliceAt 317 (.pointer (some ⟨w.heap.size,0,none⟩)) (some (.int .i64 (j:Int))) none none).run Tryz.prog W=.ok (.slice (some ⟨w.heap.size,j,none⟩) (l.length+1) (l.length+1)) W:=fun W=>by
    rw [run_sliceAt_array_l W 317 ⟨w.heap.size,0,none⟩ (by simp [Program.arrayLen,Program.elem,Tryz.underlying317]) .i64 (j:Int) (by omega) (by rw [hal];omega),hal]
    go_simp
    omega
   have hlxu:Tk.lexN16 u=Tk.lx uk::l:=by rw [hlx,Tk.lexN16_small hub16];rfl
   have hz2:=hset.2
   have hdig:=Tk.digs_at uk hub16
   unfold Tk.digs36 at hdig
   have hjA:j<A.size:=by omega
   obtain⟨v0,hv0⟩:∃ v0,A[j]?=some v0:=⟨A[j],Array.getElem?_eq_getElem hjA⟩
   have HX:=hid hlxu
   clear hub hdr hlx hset hlxu hand hdl hge hmod ha16 hidx hal
   subst hau
   clear ha0 ha1
   go_wp2
   go_ret2
   refine⟨?_,more_of_below bT⟩
   rw [HX.out]
   rfl
theorem fu16i_any(u:Nat)(hu:u<4294967296)(w:World)(hdb:w.cell? ⟨10,15,none⟩=some (.int .u8 4)) :
  Calls Tryz.prog 238 #[.int .u64 u,.int .i64 16] w fun e w'=>e=.returned (.string ⟨(Tk.lexN16 u).toArray⟩)∧∃ g,w'=more w g:=by
 have hF:=hid (fun W h=>fb16_any u hu W h)
 go_enter Tryz.func238,Tryz.ntmps238
 go_wp2_with (go_at_call 245;(with_reducible refine(hF.out _ ?_).mono ?_);(focus(exact hdb));rintro e w2 ⟨rfl,g,rfl⟩)
 go_ret
 exact⟨rfl,_,rfl⟩
theorem fu16_any(u:Nat)(hu:u<4294967296)(w:World)(hdb:w.cell? ⟨10,15,none⟩=some (.int .u8 4)) :
  Calls Tryz.prog 225 #[.int .u64 u,.int .i64 16] w fun e w'=>e=.returned (.string ⟨(Tk.lexN16 u).toArray⟩)∧∃ g,w'=more w g:=by
 have hF:=hid (fun W h=>fu16i_any u hu W h)
 go_enter Tryz.func225,Tryz.ntmps225
 go_wp2_with (go_at_call 238;(with_reducible refine(hF.out _ ?_).mono ?_);(focus(exact hdb));rintro e w2 ⟨rfl,g,rfl⟩)
 go_ret
 exact⟨rfl,_,rfl⟩
theorem up_any(u:Nat)(hu:u<4294967296)(w:World) :
  Calls Tryz.prog 224 #[.string ⟨(Tk.lexN16 u).toArray⟩] w fun e w'=>e=.returned (.string ⟨(Tk.hexN u).toArray⟩)∧∃ g,w'=more w g:=by
 refine(Tryz.strings_ToUpper_ascii ⟨(Tk.lexN16 u).toArray⟩ w ?_ ?_).mono ?_
 ·have h:=Tk.hexN_len u 7 (by omega)
  rw [← Tk.upper_hex]at h
  have h2:(Lib.toUpperA (Tk.lexN16 u)).length=(Tk.lexN16 u).length:=by simp [Lib.toUpperA]
  show(Tk.lexN16 u).toArray.size≤_
  simp;omega
 ·intro j b hb
  exact Tk.lexN16_lt u b (List.mem_of_getElem? (by simpa using hb))
 ·rintro e w' ⟨rfl,hb⟩
  refine⟨?_,more_of_below hb⟩
  have:(⟨(Tk.lexN16 u).toArray⟩:ByteArray).data.toList=Tk.lexN16 u:=rfl
  rw [this,Tk.upper_hex]
theorem hexed_any(n:Nat)(al:Bool)(w:World)(hn:n<4294967296)(hdb:w.cell? ⟨10,15,none⟩=some (.int .u8 4)) :
  Calls Tryz.prog 194 #[.int .u32 n,.bool al] w fun e w'=>(∃ t:ByteArray,Hid (t.data.toList=Tk.hexed n al)∧e=.returned (.string t))∧∃ g,w'=more w g:=by
 have HF:=fun W h=>fu16_any n hn W h
 obtain⟨z,hz⟩:∃ z:Int,z=n:=⟨_,rfl⟩
 rw [← hz]at HF ⊢
 have hz0:0≤z:=by omega
 have hz1:z<4294967296:=by omega
 clear hz
 replace HF:=hid HF
 have HU:=hid (fun W=>up_any n hn W)
 obtain⟨-,hx,hne⟩:=Tk.hexN_facts n
 obtain⟨c,t,hct⟩:=List.exists_cons_of_ne_nil hne
 have hlen:=Tk.hexN_len n 7 (by omega)
 obtain⟨H,hH⟩:∃ H:ByteArray,H=⟨(Tk.hexN n).toArray⟩:=⟨_,rfl⟩
 rw [← hH]at HU
 have hHl:H.data.toList=c::t:=by rw [hH];simp [hct]
 have hHs:H.size=t.length+1:=by
  have:=congrArg List.length hHl
  simpa using this
 have hH0:H[0]'(by omega)=c:=by
  have:H.data.toList[0]?=some c:=by rw [hHl];rfl
  rw [List.getElem?_eq_getElem (by simp;omega)]at this
  exact Option.some.inj this
 have h256:c.toNat<256:=c.toNat_lt
 have hs8:H.size≤8:=by rw [hct]at hlen;simp at hlen;omega
 have HX:=hid (show ∀ a,Tk.hexed n a=if (a || decide (57<c.toNat))=true then 48::c::t else c::t by intro a;unfold Tk.hexed;rw [hct])
 have HL:=hid hHl
 have hpos:0<H.size:=by omega
 clear hx hne hct hlen hn
 have hH1:∀ h,H[0]'h=c:=fun _=>hH0
 clear hH0 hHl hH
 clear hHs
 cases al
 ·by_cases h57:57<c.toNat
  ·have h57':(57:Int)<(c.toNat:Int):=by omega
   go_enter Tryz.func194,Tryz.ntmps194
   go_wp2_with (first|(go_at_call 225;(with_reducible refine(HF.out _ ?_).mono ?_);(focus(exact hdb));rintro e w2 ⟨rfl,g,rfl⟩)|(go_at_call 224;(with_reducible refine(HU.out _).mono ?_);rintro e w2 ⟨rfl,g,rfl⟩))
   go_ret
   refine⟨⟨_,hid ?_,rfl⟩,more_of_below bT⟩
   rw [HX.out]
   simp [ByteArray.data_append,HL.out,h57]
  ·have h57':(c.toNat:Int)≤57:=by omega
   go_enter Tryz.func194,Tryz.ntmps194
   go_wp2_with (first|(go_at_call 225;(with_reducible refine(HF.out _ ?_).mono ?_);(focus(exact hdb));rintro e w2 ⟨rfl,g,rfl⟩)|(go_at_call 224;(with_reducible refine(HU.out _).mono ?_);rintro e w2 ⟨rfl,g,rfl⟩))
   go_ret
   refine⟨⟨_,hid ?_,rfl⟩,more_of_below bT⟩
   rw [HX.out]
   simp [HL.out,h57]
 ·go_enter Tryz.func194,Tryz.ntmps194
  go_wp2_with (first|(go_at_call 225;(with_reducible refine(HF.out _ ?_).mono ?_);(focus(exact hdb));rintro e w2 ⟨rfl,g,rfl⟩)|(go_at_call 224;(with_reducible refine(HU.out _).mono ?_);rintro e w2 ⟨rfl,g,rfl⟩))
  go_ret
  refine⟨⟨_,hid ?_,rfl⟩,more_of_below bT⟩
  rw [HX.out]
  simp [ByteArray.data_append,HL.out]
structure Gx(w:World):Prop where
 gs:Gs w
 p10:Lib.TabIs Tryz.prog w "internal/strconv.uint64pow10" .u64 Lib.pow10Tab
 dbr:∃ cs,w.var? Tryz.prog "math/bits.deBruijn64tab" = some cs∧cs[15]?=some (.int .u8 4)
theorem g_p10:Tryz.prog.globalNamed "internal/strconv.uint64pow10" = some 5:=by kernel_rfl
theorem g_dbr:Tryz.prog.globalNamed "math/bits.deBruijn64tab" = some 10:=by kernel_rfl
theorem Gx.below{w w':World}(h:Gx w)(hb:Below w.heap.size w w'):Gx w':=by
 obtain⟨cs,h1,h2⟩:=h.dbr
 exact⟨h.gs.below hb,Go.Joins.var_stays g_p10 h.p10 hb (Nat.le_refl _),cs,Go.Joins.var_stays g_dbr h1 hb (Nat.le_refl _),h2⟩
theorem Gx.cell{w:World}(h:Gx w):w.cell? ⟨10,15,none⟩=some (.int .u8 4):=by
 obtain⟨cs,h1,h2⟩:=h.dbr
 rw [var?_cell g_dbr h1];exact h2
theorem itoa_any(n:Int)(w:World)(h0 : -9223372036854775808≤n)(h1:n<9223372036854775808)(hG:Gx w) :
  Calls Tryz.prog 193 #[.int .i64 n] w fun e w'=>e=.returned (.string ⟨(Lib.itoa n).toArray⟩)∧∃ g,w'=more w g:=by
 refine(Tryz.strconv_Itoa n h0 (by omega) w hG.p10).mono ?_
 rintro e w' ⟨rfl,k,os,rfl⟩
 exact⟨rfl,⟨os,w.drawn+k⟩,rfl⟩
namespace Tk
def SpRet(kd:Int)(tw:List UInt8)(n:Int)(e:Ending):Prop:=
 ∃(str:ByteArray) (b:Bool),e=.returned (.tuple #[.string str,.bool b])∧Hid ((b=true ↔ Spelt (spell kd tw n) kd tw n)∧(b=true→str.data.toList=spell kd tw n))
end Tk
theorem str_len{s:ByteArray}{l:List UInt8}(h:s.data.toList=l):s.size=l.length:=by rw [← h];simp
theorem size_one(c:UInt8):(⟨#[c]⟩:ByteArray).size=1:=rfl
theorem more_here(w:World):∃ g,w=more w g:=more_refl w
theorem spelt_any(x b1 b2 b3 b4 m:Nat)(kd n at_:Int)(tw:ByteArray)(w:World)(hL:Tk.Lx w x b1 b2 b3 b4 m)(hG:Gx w)(hs:tw.size≤4000000000)(n0 : -9223372036854775808≤n)(n1:n<9223372036854775808) :
  Calls Tryz.prog 153 #[.pointer (some ⟨x,0,none⟩),.agg #[.int .i64 kd,.string tw,.int .i64 n,.int .i64 at_]] w fun e w'=>Tk.SpRet kd tw.data.toList n e∧∃ g,w'=more w g:=by
 have HG:=hid hG
 have HL:=hid hL
 clear hG hL
 go_enter Tryz.func153,Tryz.ntmps153
 go_upto_block 0 with fail
 go_cut [6] (fun s6 wx=>∃(str:ByteArray) (g:Came),s6=.string str∧wx=more (w.alloc (.cells #[.int .i64 kd,.string tw,.int .i64 n,.int .i64 at_] 40)) g∧Hid (str.data.toList=Tk.spell kd tw.data.toList n)∧str.size≤4000000100)
 case first =>
  obtain⟨um,hum⟩:∃ um:Nat,um=(n % 4294967296).toNat:=⟨_,rfl⟩
  have humlt:um<4294967296:=by omega
  have HX1:∀ W,Gx W→Calls Tryz.prog 194 #[.int .u32 (um:Int),.bool true] W fun e w'=>(∃ t:ByteArray,(Hid (t.data.toList=Tk.hexed um true)∧t.size≤9)∧e=.returned (.string t))∧∃ g,w'=more W g:=
   fun W hG=>(hexed_any um true W humlt hG.cell).mono fun e w' ⟨⟨t,h1,h2⟩,h3⟩=>⟨⟨t,⟨h1,by rw [str_len h1.out];exact Tk.hexed_len um true humlt⟩,h2⟩,h3⟩
  have HX2:∀ W,Gx W→Calls Tryz.prog 194 #[.int .u32 (um:Int),.bool false] W fun e w'=>(∃ t:ByteArray,(Hid (t.data.toList=Tk.hexed um false)∧t.size≤9)∧e=.returned (.string t))∧∃ g,w'=more W g:=
   fun W hG=>(hexed_any um false W humlt hG.cell).mono fun e w' ⟨⟨t,h1,h2⟩,h3⟩=>⟨⟨t,⟨h1,by rw [str_len h1.out];exact Tk.hexed_len um false humlt⟩,h2⟩,h3⟩
  obtain⟨I,HI,HIl,hIs⟩:∃ I:ByteArray,(∀ W,Gx W→Calls Tryz.prog 193 #[.int .i64 n] W fun e w'=>e=.returned (.string I)∧∃ g,w'=more W g)∧Hid (I.data.toList=Lib.itoa n)∧I.size≤21:=
   ⟨⟨(Lib.itoa n).toArray⟩,fun W hG=>itoa_any n W n0 n1 hG,hid rfl,by show(Lib.itoa n).toArray.size≤21;simpa using Lib.itoa_length_le n n0 (by omega)⟩
  have hw:IntKind.u32.wrap n=(um:Int):=by rw [IntKind.wrap_u32];omega
  replace HX1:=hid HX1
  replace HX2:=hid HX2
  replace HI:=hid HI
  have HUM:=hid hum
  clear hum humlt
  by_cases h3:kd=3
  ·subst h3
   by_cases hn:n<0
   ·have HP:=hid (show Tk.spell 3 tw.data.toList n=Tk.hexed um true++[72]by unfold Tk.spell;rw [if_pos rfl,if_pos hn,HUM.out])
    go_wp2_with (first|(go_at_call 193;(with_reducible refine(HI.out _ ?_).mono ?_);(focus(exact HG.out.below bT));rintro e w2 ⟨rfl,g,rfl⟩)|(go_at_call 194;(with_reducible refine(HX1.out _ ?_).mono ?_);(focus(exact HG.out.below bT));rintro e w3 ⟨⟨t,⟨ht,hts⟩,rfl⟩,g2,rfl⟩))
    go_meet
    refine⟨_,_,rfl,rfl,hid ?_,by simp [ByteArray.size_append,size_one];omega⟩
    rw [HP.out];simp [ByteArray.data_append,ht.out]
   ·have hn0:0≤n:=by omega
    have HP:=hid (show Tk.spell 3 tw.data.toList n=Lib.itoa n by unfold Tk.spell Lib.itoa;rw [if_pos rfl,if_neg hn,if_neg hn,Tk.dec_eq])
    clear hn
    go_wp2_with (first|(go_at_call 193;(with_reducible refine(HI.out _ ?_).mono ?_);(focus(exact HG.out.below bT));rintro e w2 ⟨rfl,g,rfl⟩))
    go_meet
    exact⟨_,_,rfl,rfl,hid (HIl.out.trans HP.out.symm),by omega⟩
  have e3:(kd == 3)=false:=by simpa using h3
  by_cases h4:kd=4
  ·subst h4
   have HP:=hid (show Tk.spell 4 tw.data.toList n=Tk.hexed um false++[88]by unfold Tk.spell;rw [if_neg (by decide),if_pos rfl,HUM.out])
   clear h3
   go_wp2_with (first|(go_at_call 194;(with_reducible refine(HX2.out _ ?_).mono ?_);(focus(exact HG.out.below bT));rintro e w3 ⟨⟨t,⟨ht,hts⟩,rfl⟩,g2,rfl⟩))
   go_meet
   refine⟨_,_,rfl,rfl,hid ?_,by simp [ByteArray.size_append,size_one];omega⟩
   rw [HP.out];simp [ByteArray.data_append,ht.out]
  have e4:(kd == 4)=false:=by simpa using h4
  by_cases h5:kd=5
  ·subst h5
   have HP:=hid (show Tk.spell 5 tw.data.toList n=34::(tw.data.toList++[34])by unfold Tk.spell;rw [if_neg (by decide),if_neg (by decide),if_pos rfl])
   clear h3 h4
   go_wp2
   go_meet
   obtain⟨g,hg⟩:=more_here (w.alloc (.cells #[.int .i64 5,.string tw,.int .i64 n,.int .i64 at_] 40))
   refine⟨_,g,rfl,hg,hid ?_,by simp [ByteArray.size_append,size_one];omega⟩
   rw [HP.out];simp [ByteArray.data_append]
  have e5:(kd == 5)=false:=by simpa using h5
  have HP:=hid (show Tk.spell kd tw.data.toList n=tw.data.toList by unfold Tk.spell;rw [if_neg h3,if_neg h4,if_neg h5])
  clear h3 h4 h5
  go_wp2
  go_meet
  obtain⟨g,hg⟩:=more_here (w.alloc (.cells #[.int .i64 kd,.string tw,.int .i64 n,.int .i64 at_] 40))
  exact⟨_,g,rfl,hg,hid HP.out.symm,by omega⟩
 case rest =>
  obtain⟨str,g,rfl,rfl,HS,hss⟩:=hcut
  have HSR:Hid (∀ b:Bool,(b=true ↔(str.data.toList ≠ []∧str.data.toList.length≤66∧Tk.opens str.data.toList=false∧Tk.tokF str.data.toList=.ok (kd,tw.data.toList,n,str.data.toList.length)))→∀ str2:ByteArray,(b=true→str2=str)→Tk.SpRet kd tw.data.toList n (.returned (.tuple #[.string str2,.bool b]))):=
   hid (fun b hb str2 h2=>⟨str2,b,rfl,hid ⟨by rw [← HS.out];exact hb,fun h=>by rw [h2 h];exact HS.out⟩⟩)
  by_cases hz:str.size=0
  ·have hse:str=⟨#[]⟩:=by
    apply ByteArray.ext;apply Array.eq_empty_of_size_eq_zero;exact hz
   subst hse
   clear hss hz
   go_wp2
   go_ret2
   refine⟨HSR.out false (by simp) _ (by simp),more_of_below bT⟩
  have hpos:0<str.size:=by omega
  have hsl:str.data.toList.length=str.size:=by simp
  have hne:str.data.toList ≠ []:=by intro h;rw [h]at hsl;simp at hsl;omega
  rw [hsl]at HSR
  have hsb:(str.toList == ([]:List UInt8))=false:=ne_bytes (x:=str) (l:=[]) (by rintro rfl;exact absurd hpos (by decide))
  by_cases h66:66<str.size
  ·have hno:=hid (HSR.out false (by simp;omega))
   clear HSR hz hne hsl HS
   go_wp2
   go_ret2
   refine⟨hno.out _ (by simp),more_of_below bT⟩
  have h66':str.size≤66:=by omega
  clear h66 hss
  cases hop:Tk.opens str.data.toList with
  | true =>
   have HPx:=hid (hp_any (t:=str) (p:=⟨#[40,42]⟩) (b:=true) (by rw [Tk.hp_take];exact hop))
   have hno:=hid (HSR.out false (by simp [hop]))
   clear HSR hz hne hsl HS hop
   go_wp2_with (go_at_call 54;(with_reducible refine(HPx.out _).mono ?_);rintro e w2 ⟨rfl,rfl⟩)
   go_ret2
   refine⟨hno.out _ (by simp),more_of_below bT⟩
  | false =>
  have HPx:=hid (hp_any (t:=str) (p:=⟨#[40,42]⟩) (b:=false) (by rw [Tk.hp_take];exact hop))
  cases ht:Tk.tokF str.data.toList with
  | error ec =>
   have hec:=Tk.tokF_err ht
   have e1:(ec == 0)=false:=by simp;omega
   have HT:∀ W,Tk.Lx W x b1 b2 b3 b4 m→Gs W→Calls Tryz.prog 56 #[.pointer (some ⟨x,0,none⟩),.string str] W fun e w'=>(∃ f t n a2 m2,e=.returned (.tuple #[.agg #[.int .i64 f,.string t,.int .i64 n,.int .i64 a2],.int .i64 m2,.int .i64 ec]))∧∃ g,w'=more W g:=
    fun W hL hg=>(token_any str x b1 b2 b3 b4 m W (by omega) hL hg hpos (.error ec) ht).mono fun e w' ⟨⟨f,t,n,a,m,h⟩,h2⟩=>⟨⟨f,t,n,a,m,h⟩,h2⟩
   replace HT:=hid HT
   have hno:=hid (HSR.out false (by simp [ht]))
   clear HSR hz hne hsl HS hop ht hec
   go_wp2_with (first|(go_at_call 54;(with_reducible refine(HPx.out _).mono ?_);rintro e w2 ⟨rfl,rfl⟩)|(go_at_call 56;(with_reducible refine(HT.out _ ?_ ?_).mono ?_);(focus(exact HL.out.below bT));(focus(exact(HG.out.below bT).gs));rintro e w2 ⟨⟨f,t,n2,a2,m2,rfl⟩,g2,rfl⟩))
   go_quiet (fail)
   go_wp2
   go_ret2
   refine⟨hno.out _ (by simp),more_of_below bT⟩
  | ok v4 =>
  obtain⟨kd2,tw2,n2,m2⟩:=v4
  have hm:=Tk.tokF_len ht
  rw [hsl]at hm
  obtain⟨t2,ht2⟩:∃ t2:ByteArray,t2=⟨tw2.toArray⟩:=⟨_,rfl⟩
  have HT:∀ W,Tk.Lx W x b1 b2 b3 b4 m→Gs W→Calls Tryz.prog 56 #[.pointer (some ⟨x,0,none⟩),.string str] W fun e w'=>e=.returned (.tuple #[.agg #[.int .i64 kd2,.string t2,.int .i64 n2,.int .i64 0],.int .i64 (m2:Int),.int .i64 0])∧∃ g,w'=more W g:=
   fun W hL hg=>(token_any str x b1 b2 b3 b4 m W (by omega) hL hg hpos (.ok (kd2,tw2,n2,m2)) ht).mono fun e w' ⟨⟨t,h1,h2⟩,h3⟩=>⟨by rw [h2,ht2,← h1,bytes_self];rfl,h3⟩
  replace HT:=hid HT
  have htl:t2.data.toList=tw2:=by rw [ht2]
  rw [← htl]at ht
  clear ht2 htl
  by_cases hms:m2=str.size
  ·subst hms
   have e0:((str.size:Int) == (str.size:Int))=true:=by simp
   by_cases hk:kd2=kd
   ·subst hk
    have e1:(kd2 == kd2)=true:=by simp
    by_cases htt:t2=tw
    ·subst htt
     have e2:(t2.toList == t2.toList)=true:=by simp
     by_cases hn:n2=n
     ·subst hn
      have e3:(n2 == n2)=true:=by simp
      have hno:=hid (HSR.out true (by simp [ht,hop];exact⟨by simpa using hne,h66'⟩))
      clear HSR hz hne hsl HS hop ht hm
      go_wp2_with (first|(go_at_call 54;(with_reducible refine(HPx.out _).mono ?_);rintro e w2 ⟨rfl,rfl⟩)|(go_at_call 56;(with_reducible refine(HT.out _ ?_ ?_).mono ?_);(focus(exact HL.out.below bT));(focus(exact(HG.out.below bT).gs));rintro e w2 ⟨rfl,g2,rfl⟩))
      go_quiet (fail)
      go_wp2
      go_ret2
      refine⟨hno.out _ (by simp),more_of_below bT⟩
     ·have e3:(n2 == n)=false:=by simpa using hn
      have hno:=hid (HSR.out false (by simp [ht,hn]))
      clear HSR hz hne hsl HS hop ht hm hn
      go_wp2_with (first|(go_at_call 54;(with_reducible refine(HPx.out _).mono ?_);rintro e w2 ⟨rfl,rfl⟩)|(go_at_call 56;(with_reducible refine(HT.out _ ?_ ?_).mono ?_);(focus(exact HL.out.below bT));(focus(exact(HG.out.below bT).gs));rintro e w2 ⟨rfl,g2,rfl⟩))
      go_quiet (fail)
      go_wp2
      go_ret2
      refine⟨hno.out _ (by simp),more_of_below bT⟩
    ·have e2:(t2.toList == tw.toList)=false:=by
      rw [Bool.eq_false_iff];intro h;apply htt
      have:=eq_of_beq h
      rw [ByteArray.toList_eq,ByteArray.toList_eq]at this
      apply ByteArray.ext;exact Array.toList_inj.1 this
     have hno:=hid (HSR.out false (by
      simp only [Bool.false_eq_true,false_iff]
      rintro⟨-,-,-,h⟩
      rw [ht]at h
      injection h with h;injection h with _ h;injection h with h _
      exact htt (by apply ByteArray.ext;exact Array.toList_inj.1 h)))
     clear HSR hz hne hsl HS hop ht hm htt
     go_wp2_with (first|(go_at_call 54;(with_reducible refine(HPx.out _).mono ?_);rintro e w2 ⟨rfl,rfl⟩)|(go_at_call 56;(with_reducible refine(HT.out _ ?_ ?_).mono ?_);(focus(exact HL.out.below bT));(focus(exact(HG.out.below bT).gs));rintro e w2 ⟨rfl,g2,rfl⟩))
     go_quiet (fail)
     go_wp2
     go_ret2
     refine⟨hno.out _ (by simp),more_of_below bT⟩
   ·have e1:(kd2 == kd)=false:=by simpa using hk
    have hno:=hid (HSR.out false (by simp [ht,hk]))
    clear HSR hz hne hsl HS hop ht hm hk
    go_wp2_with (first|(go_at_call 54;(with_reducible refine(HPx.out _).mono ?_);rintro e w2 ⟨rfl,rfl⟩)|(go_at_call 56;(with_reducible refine(HT.out _ ?_ ?_).mono ?_);(focus(exact HL.out.below bT));(focus(exact(HG.out.below bT).gs));rintro e w2 ⟨rfl,g2,rfl⟩))
    go_quiet (fail)
    go_wp2
    go_ret2
    refine⟨hno.out _ (by simp),more_of_below bT⟩
  ·have e0:((m2:Int) == (str.size:Int))=false:=by simp;omega
   have hno:=hid (HSR.out false (by simp [ht];intros;omega))
   have hm2:=hm.2
   clear HSR hz hne hsl HS hop ht hm hms
   go_wp2_with (first|(go_at_call 54;(with_reducible refine(HPx.out _).mono ?_);rintro e w2 ⟨rfl,rfl⟩)|(go_at_call 56;(with_reducible refine(HT.out _ ?_ ?_).mono ?_);(focus(exact HL.out.below bT));(focus(exact(HG.out.below bT).gs));rintro e w2 ⟨rfl,g2,rfl⟩))
   go_quiet (fail)
   go_wp2
   go_ret2
   refine⟨hno.out _ (by simp),more_of_below bT⟩
end Go.Proofs.YtlhmkfcbldghfaaGreatDoor
