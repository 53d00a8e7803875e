/- The walks of the token package's small functions: run,comment,and of the document's answer: comment,skip. The walks of the two functions that pass a comment. Conditions: the text's size is bounded. -/
import Derived.Test.YtlhmkfcbldghfaaGreatDoorChecked
import Derived.Test.YtlhmkfcbldghfaaGreatDoorTkA
import Derived.Test.YtlhmkfcbldghfaaGreatDoorMoreX
import Derived.BigQuiet
import Derived.Deep.QuietTactic
import Derived.WalkLawsBesides
import Derived.WalkSpells
import Derived.Handy
import Derived.Lib.Hide
import Derived.Lib.Strings
import Derived.Lib.AsciiSet
import Derived.Lib.FieldsLaws
import Derived.Deep.DeepCutAuto
import Derived.Deep.RegionWith
import Derived.MapKept
namespace Go.Proofs.YtlhmkfcbldghfaaGreatDoor
set_option linter.all false
open Go.Lib (hid)
set_option maxRecDepth 1000000
set_option maxHeartbeats 16000000
open Go.RowKit
namespace Tk
theorem drop_at(s:ByteArray)(k:Nat)(hk:k<s.size):s.data.toList.drop k=s[k]::s.data.toList.drop (k+1):=by
 rw [List.drop_eq_getElem_cons (by simpa using hk)];rfl
theorem runin(s:ByteArray)(p:UInt8→Bool)(k:Nat)(hk:k<s.size)(hp:p s[k]=true)
  (h:(s.data.toList.takeWhile p).length=k+((s.data.toList.drop k).takeWhile p).length) :
  (s.data.toList.takeWhile p).length=(k+1)+((s.data.toList.drop (k+1)).takeWhile p).length:=by
 rw [drop_at s k hk,List.takeWhile_cons,if_pos hp,List.length_cons]at h;omega
theorem run_out(s:ByteArray)(p:UInt8→Bool)(k:Nat)(hk:k<s.size)(hp:p s[k]=false)
  (h:(s.data.toList.takeWhile p).length=k+((s.data.toList.drop k).takeWhile p).length) :
  (s.data.toList.takeWhile p).length=k:=by
 rw [drop_at s k hk,List.takeWhile_cons,if_neg (by simp [hp])]at h;simpa using h
theorem run_end(s:ByteArray)(p:UInt8→Bool)(k:Nat)(hk:¬ k<s.size)
  (h:(s.data.toList.takeWhile p).length=k+((s.data.toList.drop k).takeWhile p).length) :
  (s.data.toList.takeWhile p).length=k:=by
 rw [List.drop_eq_nil_of_le (by simp;omega)]at h;simpa using h
end Tk
theorem run_any(s:ByteArray)(b:Nat)(p:UInt8→Bool)(w:World)(hs:s.size<4294967281)(hb:b<w.heap.size)(hc:∀ c:UInt8,w.cell? ⟨b,c.toNat,none⟩=some (.bool (p c))) :
  Calls Tryz.prog 92 #[.string s,.pointer (some ⟨b,0,none⟩)] w fun e w'=>e=.returned (.int .i64 (s.data.toList.takeWhile p).length)∧∃ n,w'=w.drewN n:=by
 go_enter Tryz.func92,Tryz.ntmps92
 go_wp2
 go_loopw [5] (fun i wr=>∃ k m:Nat,k≤s.size∧i=.int .i64 k∧wr=w.drewN m∧Hid ((s.data.toList.takeWhile p).length=k+((s.data.toList.drop k).takeWhile p).length)) (fun i _=>s.size - (intOf i).toNat)
 case atStart=>exact⟨0,0,Nat.zero_le _,rfl,rfl,hid (by simp)⟩
 case round =>
  obtain⟨k,m,hk,rfl,rfl,H⟩:=hrel
  by_cases hlt:k<s.size
  ·have h256:s[k].toNat<256:=UInt8.toNat_lt _
   have hcell:=hc s[k]
   by_cases hp:p s[k]=true
   ·rw [hp]at hcell
    have H2:=hid (Tk.runin s p k hlt hp H.out)
    clear H
    go_wp2_with fail
    go_quiet (fail)
    go_wp2
    go_round
    case rel=>exact⟨k+1,_,by omega,by go_num,rfl,H2⟩
    case measure=>simp [intOf];omega
   ·have hp':p s[k]=false:=by simpa using hp
    rw [hp']at hcell
    have H2:=hid (Tk.run_out s p k hlt hp' H.out)
    clear H
    go_wp2_with fail
    go_quiet (fail)
    go_wp2
    go_ret
    exact⟨by rw [H2.out];rfl,m+nq,World.drewN_drewN ..⟩
  ·have H2:=hid (Tk.run_end s p k hlt H.out)
   clear H
   go_wp2_with fail
   go_quiet (fail)
   go_wp2
   go_ret
   exact⟨by rw [H2.out];rfl,m+nq,World.drewN_drewN ..⟩
namespace Tk
theorem cmt_step(s:ByteArray)(k:Nat)(d:Int)(hk:k+1<s.size):Tk.cmt (s.data.toList.drop k) d =
  if s[k]=40∧s[k+1]=42 then(Tk.cmt (s.data.toList.drop (k+2)) (d+1)).map (·+2)
  else if s[k]=42∧s[k+1]=41 then(if d=1 then some 2 else(Tk.cmt (s.data.toList.drop (k+2)) (d - 1)).map (·+2))
  else(Tk.cmt (s.data.toList.drop (k+1)) d).map (·+1):=by
 rw [drop_at s k (by omega),drop_at s (k+1) hk,Tk.cmt]
theorem cmt_end(s:ByteArray)(k:Nat)(d:Int)(hk:¬ k+1<s.size):Tk.cmt (s.data.toList.drop k) d=none:=by
 have:(s.data.toList.drop k).length≤1:=by simp;omega
 match h:s.data.toList.drop k,this with
 | [],_=>rfl
 | [_],_=>rfl
theorem pair_eq(s:ByteArray)(k:Nat)(hk:k+1<s.size)(a b:UInt8):s.extract k (k+2)=⟨#[a,b]⟩ ↔ s[k]=a∧s[k+1]=b:=by
 have h:(s.extract k (k+2)).data.toList=[s[k],s[k+1]]:=by
  have:=Lib.extract_toList s k (k+2)
  rw [ByteArray.toList_eq]at this
  rw [this,drop_at s k (by omega),drop_at s (k+1) hk,show k+2 - k=2 by omega]
  simp
 constructor
 ·intro e;rw [e]at h;simp at h;exact⟨h.1.symm,h.2.symm⟩
 ·rintro⟨rfl,rfl⟩
  have:(s.extract k (k+2)).data.toList=(⟨#[s[k],s[k+1]]⟩:ByteArray).data.toList:=by rw [h]
  cases hx:s.extract k (k+2)with
  | mk d=>rw [hx]at this;simp only [ByteArray.mk.injEq];exact Array.toList_inj.1 this
end Tk
theorem ne_bytes{x:ByteArray}{l:List UInt8}(h:¬ x=⟨l.toArray⟩):(x.toList == l)=false:=by
 rw [Bool.eq_false_iff]
 intro e
 apply h
 have e:=eq_of_beq e
 rw [ByteArray.toList_eq]at e
 cases x with
 | mk d=>simp only [ByteArray.mk.injEq];exact Array.toList_inj.1 (by simpa using e)
theorem comment_any(s:ByteArray)(w:World)(hs:s.size<4294967281) :
  Calls Tryz.prog 55 #[.string s] w fun e w'=>e=.returned (.int .i64 ((Tk.cmt s.data.toList 0).getD 0))∧w'=w:=by
 go_enter Tryz.func55,Tryz.ntmps55
 go_wp2
 go_loop [3,4] (fun o i=>∃(k:Nat) (d:Int),k≤s.size∧i=.int .i64 k∧o=.int .i64 d∧(-(k:Int)≤d∧d≤k)∧Hid (Tk.cmt s.data.toList 0=(Tk.cmt (s.data.toList.drop k) d).map (·+k))) (fun _ i=>s.size - (intOf i).toNat)
 case atStart=>exact⟨0,0,Nat.zero_le _,rfl,rfl,by omega,hid (by simp)⟩
 case round =>
  obtain⟨k,d,hk,rfl,rfl,hd,H⟩:=hrel
  by_cases hlt:k+1<s.size
  ·have HE:=hid (Tk.cmt_step s k d hlt)
   by_cases h1:s.extract k (k+2)=⟨#[40,42]⟩
   ·have h1':=hid ((Tk.pair_eq s k hlt 40 42).1 h1)
    go_wp2
    go_round
    case rel=>exact⟨k+2,d+1,by omega,by go_num,by go_num,by omega,hid (by rw [H.out,HE.out,if_pos h1'.out,Option.map_map];congr 1;funext x;simp;omega)⟩
    case measure=>simp [intOf];omega
   ·have hb1:((s.extract k (k+2)).toList == [40,42])=false:=ne_bytes h1
    have hn1:=hid (fun h=>h1 ((Tk.pair_eq s k hlt 40 42).2 h))
    by_cases h2:s.extract k (k+2)=⟨#[42,41]⟩
    ·have h2':=hid ((Tk.pair_eq s k hlt 42 41).1 h2)
     by_cases hd1:d=1
     ·subst hd1
      have HV:=hid (show Tk.cmt s.data.toList 0=some (2+k)by rw [H.out,HE.out,if_neg hn1.out,if_pos h2'.out,if_pos rfl];rfl)
      clear HE H
      go_wp2
      go_ret
      exact⟨by rw [HV.out];show Ending.returned (.int .i64 _)=.returned (.int .i64 _);congr 2;simp;omega,rfl⟩
     ·have hd2:(d - 1 == 0)=false:=by simp;omega
      go_wp2
      go_round
      case rel=>exact⟨k+2,d - 1,by omega,by go_num,by go_num,by omega,hid (by rw [H.out,HE.out,if_neg hn1.out,if_pos h2'.out,if_neg hd1,Option.map_map];congr 1;funext x;simp;omega)⟩
      case measure=>simp [intOf];omega
    ·have hb2:((s.extract k (k+2)).toList == [42,41])=false:=ne_bytes h2
     have hn2:=hid (fun h=>h2 ((Tk.pair_eq s k hlt 42 41).2 h))
     go_wp2
     go_round
     case rel=>exact⟨k+1,d,by omega,by go_num,rfl,by omega,hid (by rw [H.out,HE.out,if_neg hn1.out,if_neg hn2.out,Option.map_map];congr 1;funext x;simp;omega)⟩
     case measure=>simp [intOf];omega
  ·have HE:=hid (Tk.cmt_end s k d hlt)
   go_wp2
   go_ret
   exact⟨by rw [H.out,HE.out];rfl,rfl⟩
namespace Tk
theorem blank_iff(c:UInt8):blank c=true ↔ c.toNat=9∨c.toNat=10∨c.toNat=13∨c.toNat=32:=by
 simp only [blank,Bool.or_eq_true,beq_iff_eq,← UInt8.toNat_inj]
 simp [or_assoc]
theorem blank_no{c:UInt8}(h:blank c=false):¬ c.toNat=9∧¬ c.toNat=10∧¬ c.toNat=13∧¬ c.toNat=32:=by
 have:=mt (blank_iff c).2 (by simp [h])
 omega
end Tk
namespace Tk
def va(B acc:Nat)(l:List UInt8):Nat:=l.foldl (fun n c=>n * B+dig c) acc
theorem va_cons(B acc:Nat)(c:UInt8)(l:List UInt8):va B acc (c::l)=va B (acc * B+dig c) l:=rfl
theorem va_ge(B:Nat)(hB:1≤B)(l:List UInt8):∀ acc,acc≤va B acc l:=by
 induction l with
 | nil=>intro acc;exact Nat.le_refl _
 | cons c l ih =>
  intro acc
  rw [va_cons]
  have h1:=ih (acc * B+dig c)
  have h2:acc * 1≤acc * B:=Nat.mul_le_mul_left _ hB
  omega
theorem va_range{B M:Nat}(hB:1≤B){l:List UInt8}{acc:Nat}(h:M<acc):M<va B acc l:=Nat.lt_of_lt_of_le h (va_ge B hB l acc)
theorem hexa_cases{c:UInt8}(h:hexa c=true):(48≤c.toNat∧c.toNat≤57∧dig c=c.toNat - 48)∨(65≤c.toNat∧c.toNat≤70∧dig c=c.toNat - 55):=by
 simp only [hexa,digit,Bool.or_eq_true,Bool.and_eq_true,decide_eq_true_eq]at h
 unfold dig
 rcases h with⟨h1,h2⟩|⟨h1,h2⟩
 ·left;rw [if_pos h2];exact⟨h1,h2,rfl⟩
 ·right;rw [if_neg (by omega)];exact⟨h1,h2,rfl⟩
theorem digit_cases{c:UInt8}(h:digit c=true):48≤c.toNat∧c.toNat≤57∧dig c=c.toNat - 48:=by
 simp only [digit,Bool.and_eq_true,decide_eq_true_eq]at h
 unfold dig
 rw [if_pos h.2];exact⟨h.1,h.2,rfl⟩
theorem hexa_le{c:UInt8}(h:hexa c=true):c.toNat≤70:=by rcases hexa_cases h with h|h <;> omega
theorem digit_le{c:UInt8}(h:digit c=true):c.toNat≤57:=(digit_cases h).2.1
theorem low_letter{c:Nat}(h1:65≤c)(h2:c≤70):c ||| 32=c+32:=by
 have:c=65∨c=66∨c=67∨c=68∨c=69∨c=70:=by omega
 rcases this with rfl|rfl|rfl|rfl|rfl|rfl <;> rfl
end Tk
namespace Tk
def rng(a b:Nat):List UInt8:=(List.range' a (b+1 - a)).map UInt8.ofNat
def rngs(l:List (Nat × Nat)):List UInt8:=l.flatMap fun r=>rng r.1 r.2
theorem u8_all{p:UInt8→Bool}(h:(List.range 256).all (fun n=>p (UInt8.ofNat n))=true)(c:UInt8):p c=true:=by
 have:=List.all_eq_true.1 h c.toNat (List.mem_range.2 c.toNat_lt)
 simpa using this
theorem u8_eq{p q:UInt8→Bool}(h:(List.range 256).all (fun n=>p (UInt8.ofNat n) == q (UInt8.ofNat n))=true)(c:UInt8):p c=q c:=eq_of_beq (u8_all (p:=fun c=>p c == q c) h c)
theorem tab_letter(c:UInt8):(rngs [(97,122),(65,90)]).contains c=letter c:=u8_eq (p:=fun c=>(rngs [(97,122),(65,90)]).contains c) (by decide +kernel) c
theorem tab_inside(c:UInt8):(rngs [(97,122),(65,90),(48,57)]).contains c=inside c:=u8_eq (p:=fun c=>(rngs [(97,122),(65,90),(48,57)]).contains c) (by decide +kernel) c
theorem tab_digit(c:UInt8):(rngs [(48,57)]).contains c=digit c:=u8_eq (p:=fun c=>(rngs [(48,57)]).contains c) (by decide +kernel) c
theorem tab_hexa(c:UInt8):(rngs [(48,57),(65,70)]).contains c=hexa c:=u8_eq (p:=fun c=>(rngs [(48,57),(65,70)]).contains c) (by decide +kernel) c
theorem rng_len(a b:Nat):(rng a b).length=b+1 - a:=by simp [rng]
theorem rng_at(a b i:Nat)(h:a+i≤b):(rng a b).take (i+1)=(rng a b).take i++[UInt8.ofNat (a+i)]:=by
 have:(rng a b)[i]?=some (UInt8.ofNat (a+i)):=by
  simp [rng,List.getElem?_range',show i<b+1 - a by omega]
 rw [List.take_succ,this];rfl
theorem keys_nodup:keys.Nodup:=by decide +kernel
theorem keys_len:keys.length=33:=by decide +kernel
end Tk
namespace Tk
def sgs:List (List UInt8):=signs2++signs1.map fun c=>[c]
def beg(l w:List UInt8):Bool:=l.take w.length == w
theorem find_self(a:List UInt8)(L:List (List UInt8)):L.find? (fun w=>a == w)=if a∈L then some a else none:=by
 induction L with
 | nil=>simp
 | cons b L ih =>
  rw [List.find?_cons]
  by_cases h:a=b
  ·subst h;simp
  ·rw [show(a == b)=false by simpa using h]
   simp only [ih,List.mem_cons,h,false_or]
theorem find_congr{p q:List UInt8→Bool}(L:List (List UInt8))(h:∀ w∈L,p w=q w):L.find? p=L.find? q:=by
 induction L with
 | nil=>rfl
 | cons b L ih=>rw [List.find?_cons,List.find?_cons,h b (by simp),ih (fun w hw=>h w (by simp [hw]))]
theorem sign_find(l:List UInt8):signT l=match sgs.find? (beg l)with|some w => .ok (6,w,0,w.length)|none => .error 90:=by
 have h2:signs2.find? (beg l)=if l.take 2∈signs2 then some (l.take 2)else none:=by
  rw [← find_self]
  apply find_congr
  intro w hw
  have:w.length=2:=by
   simp only [signs2,List.mem_cons,List.not_mem_nil,or_false]at hw
   rcases hw with e|e|e|e <;> rw [e] <;> rfl
  unfold beg;rw [this]
 have h1:(signs1.map fun c=>[c]).find? (beg l)=if l.take 1∈signs1.map (fun c=>[c])then some (l.take 1)else none:=by
  rw [← find_self]
  apply find_congr
  intro w hw
  obtain⟨c,_,rfl⟩:=List.mem_map.1 hw
  rfl
 rw [sgs,List.find?_append,h2,h1]
 unfold signT
 by_cases hs:l.take 2∈signs2
 ·rw [if_pos hs,if_pos hs]
  have:(l.take 2).length=2:=by
   simp only [signs2,List.mem_cons,List.not_mem_nil,or_false]at hs
   rcases hs with e|e|e|e <;> rw [e] <;> rfl
  simp only [Option.some_or]
  rw [this]
 ·rw [if_neg hs,if_neg hs,Option.none_or]
  cases l with
  | nil=>simp
  | cons c t =>
   have hm:(c::t).take 1∈signs1.map (fun c=>[c]) ↔ c∈signs1:=by
    simp [List.mem_map]
   by_cases hc:c∈signs1
   ·rw [if_pos (hm.2 hc)]
    simp only [hc,if_true]
    try rfl
   ·rw [if_neg (fun h=>hc (hm.1 h))]
    try simp only [hc,if_false]
theorem sgs_len:sgs.length=26:=by decide
end Tk
def KeysIn(w:World)(b:Nat)(ws:List (List UInt8)):Prop:=
 ∃ es c,w.heap[b]?=some (.map es c)∧es.toList.map (fun e=>(e.key,e.val))=ws.map (fun l=>(Value.string ⟨l.toArray⟩,Value.int .i64 1))
theorem KeysIn.lt{w:World}{b:Nat}{ws:List (List UInt8)}(h:KeysIn w b ws):b<w.heap.size:=by
 obtain⟨es,c,h,_⟩:=h
 exact(Array.getElem?_eq_some_iff.1 h).1
theorem KeysIn.keep{w w':World}{b:Nat}{ws:List (List UInt8)}(h:KeysIn w b ws)(hb:w'.heap[b]?=w.heap[b]?):KeysIn w' b ws:=by
 obtain⟨es,c,h1,h2⟩:=h
 exact⟨es,c,hb.trans h1,h2⟩
theorem KeysIn.more{w:World}{b:Nat}{ws:List (List UInt8)}(h:KeysIn w b ws)(g:Came):KeysIn (more w g) b ws:=h.keep (more_block w g b h.lt)
theorem KeysIn.below{w w':World}{b B:Nat}{ws:List (List UInt8)}(h:KeysIn w b ws)(hb:Below B w w')(hB:b<B):KeysIn w' b ws:=h.keep (hb.block b hB)
theorem bytes_self(s:ByteArray):(⟨s.data.toList.toArray⟩:ByteArray)=s:=by cases s;simp
theorem keys_entry{es:Array MapEntry}{ws:List (List UInt8)}(h:es.toList.map (fun e=>(e.key,e.val))=ws.map (fun l=>(Value.string ⟨l.toArray⟩,Value.int .i64 1))){e:MapEntry}(he:e∈es.toList) :
  ∃ l∈ws,e.key=.string ⟨l.toArray⟩∧e.val=.int .i64 1:=by
 have:(e.key,e.val)∈es.toList.map (fun e=>(e.key,e.val)):=List.mem_map.2 ⟨e,he,rfl⟩
 rw [h]at this
 obtain⟨l,hl,he⟩:=List.mem_map.1 this
 simp only [Prod.mk.injEq]at he
 exact⟨l,hl,he.1.symm,he.2.symm⟩
theorem keys_mem{es:Array MapEntry}{ws:List (List UInt8)}(h:es.toList.map (fun e=>(e.key,e.val))=ws.map (fun l=>(Value.string ⟨l.toArray⟩,Value.int .i64 1))){l:List UInt8}(hl:l∈ws) :
  ∃ e∈es.toList,e.key=.string ⟨l.toArray⟩:=by
 have:(Value.string ⟨l.toArray⟩,Value.int .i64 1)∈ws.map (fun l=>(Value.string ⟨l.toArray⟩,Value.int .i64 1)):=List.mem_map.2 ⟨l,hl,rfl⟩
 rw [← h]at this
 obtain⟨e,he,h'⟩:=List.mem_map.1 this
 simp only [Prod.mk.injEq]at h'
 exact⟨e,he,h'.1⟩
theorem bytes_inj{l:List UInt8}{s:ByteArray}(h:Value.string ⟨l.toArray⟩=Value.string s):l=s.data.toList:=by
 simp only [Value.string.injEq]at h
 rw [← h]
section
variable {P:Program} {t k e:TypeId}
theorem run_keys_look{w:World}{b:Nat}{ws:List (List UInt8)}(h:KeysIn w b ws)(ht:P.underlying t=some (.map k e))(hk:P.underlying k=some .string)(hz:(zeroValue e).run P w=.ok (.int .i64 0) w)(s:ByteArray) :
  (Instr.lookup t (.map (some b)) (.string s) false).run P w=.ok (.int .i64 (if s.data.toList∈ws then 1 else 0)) w:=by
 obtain⟨es,c,hb,he⟩:=h
 have hkey:MapKept.IsKey .string (.string s):=trivial
 rcases MapKept.findNow_spec hkey es.toList 0 (fun x hx=>by obtain⟨l,_,h1,_⟩:=keys_entry he hx;rw [h1];trivial)with⟨h1,h2⟩|⟨j,x,h1,h2,h3⟩
 ·rw [if_neg (fun hm=>by
   obtain⟨x,hx,hx2⟩:=keys_mem he hm
   exact h2 x hx (by rw [hx2,bytes_self]))]
  simp [Instr.lookup,run_underlying ht,MapKept.run_getObj_map hb,MapKept.run_checkKey hk hkey,MapKept.run_findKey hk h1,hz]
 ·obtain⟨l,hl,h4,h5⟩:=keys_entry he (List.mem_of_getElem? h2)
  rw [if_pos (by rw [← bytes_inj (h4.symm.trans h3)];exact hl)]
  rw [h5]at h1
  simp [Instr.lookup,run_underlying ht,MapKept.run_getObj_map hb,MapKept.run_checkKey hk hkey,MapKept.run_findKey hk h1]
def setMapS(W:World)(b:Nat)(es:Array MapEntry)(c:Nat):World:={ W with heap:=W.heap.setIfInBounds b (.map es c) }
theorem setMapS_at(W:World)(b:Nat)(es:Array MapEntry)(c:Nat)(h:b<W.heap.size):(setMapS W b es c).heap[b]?=some (.map es c):=by simp [setMapS,h]
theorem setMapS_block(W:World)(b:Nat)(es:Array MapEntry)(c:Nat)(k:Nat)(h:k ≠ b):(setMapS W b es c).heap[k]?=W.heap[k]?:=by simp [setMapS,Ne.symm h]
theorem below_setMapS{W:World}{b:Nat}{es:Array MapEntry}{c:Nat}{B:Nat}{a:World}(h:Below B a W)(hB:B≤b):Below B a (setMapS W b es c):=
 h.trans ⟨rfl,rfl,rfl,by simp [setMapS],fun k hk=>setMapS_block W b es c k (by omega)⟩
theorem run_keys_put{w:World}{b:Nat}{ws:List (List UInt8)}(h:KeysIn w b ws)(ht:P.underlying t=some (.map k e))(hk:P.underlying k=some .string){s:ByteArray}{l:List UInt8}(hs:s=⟨l.toArray⟩)(hl:l ∉ ws) :
  ∃ w',(Instr.mapUpdate t (.map (some b)) (.string s) (.int .i64 1)).run P w=.ok () w'∧KeysIn w' b (ws++[l])∧w'.heap.size=w.heap.size∧(∀ k,k ≠ b→w'.heap[k]?=w.heap[k]?)∧Below b w w':=by
 have hlt:=h.lt
 obtain⟨es,c,hb,he⟩:=h
 have hkey:MapKept.IsKey .string (.string s):=trivial
 rcases MapKept.findNow_spec hkey es.toList 0 (fun x hx=>by obtain⟨l,_,h1,_⟩:=keys_entry he hx;rw [h1];trivial)with⟨h1,h2⟩|⟨j,x,h1,h2,h3⟩
 ·refine⟨setMapS w b (es.push { key:=.string s,val:=.int .i64 1,born:=c }) (c+1),?_,⟨_,_,setMapS_at _ _ _ _ hlt,by simp [he,hs]⟩,by simp [setMapS],fun k hk=>setMapS_block _ _ _ _ _ hk,below_setMapS (Below.refl _ _) (Nat.le_refl _)⟩
  simp [Instr.mapUpdate,run_underlying ht,MapKept.run_getObj_map hb,MapKept.run_checkKey hk hkey,MapKept.run_findKey hk h1,MapKept.run_setObj_map _ hb]
  rfl
 ·exfalso
  obtain⟨l',hl',h4,_⟩:=keys_entry he (List.mem_of_getElem? h2)
  have:=bytes_inj (h4.symm.trans h3)
  apply hl
  rw [hs]at this
  simp at this
  rw [← this];exact hl'
end
theorem wpList_keys_look{P:Program}{ops:Array Oper}{rest:List Oper}{o:Oper}{Q:Exit→Act→World→Prop}{a:Act}{W:World}(hgd:o.guard=none)(m kx:Operand)(t:TypeId)(ho:o.op=.lookup t m kx false)
  {r:Nat} {k e:TypeId} {ws:List (List UInt8)} {s:ByteArray} (h:KeysIn W r ws) (hm:a.eval m=.map (some r)) (hx:a.eval kx=.string s) (ht:P.underlying t=some (.map k e)) (hk:P.underlying k=some .string) (hz:(zeroValue e).run P W=.ok (.int .i64 0) W)
  {n:Int} (hn:(if s.data.toList∈ws then 1 else 0)=n) (hK:wpList P ops Q rest (a.put o.dst (.int .i64 n)) W):wpList P ops Q (o::rest) a W:=by
 refine wpList_plain hgd (fun K hK'=>?_)
 have hr:=run_keys_look h ht hk hz s
 rw [hn]at hr
 unfold Oper.wp
 simp [execOp,ho,hm,hx,hr,Result.andThen]
 exact hK' _ _ hK
theorem wpList_keys_put{P:Program}{ops:Array Oper}{rest:List Oper}{o:Oper}{Q:Exit→Act→World→Prop}{a:Act}{W:World}(hgd:o.guard=none)(m kx vx:Operand)(t:TypeId)(ho:o.op=.mapUpdate t m kx vx)
  {r:Nat} {k e:TypeId} {ws:List (List UInt8)} {s:ByteArray} {l:List UInt8} (h:KeysIn W r ws) (hm:a.eval m=.map (some r)) (hx:a.eval kx=.string s) (hv:a.eval vx=.int .i64 1) (ht:P.underlying t=some (.map k e)) (hk:P.underlying k=some .string) (hs:s=⟨l.toArray⟩) (hl:l ∉ ws)
  (hn:∀ W',KeysIn W' r (ws++[l])→W'.heap.size=W.heap.size→(∀ k,k ≠ r→W'.heap[k]?=W.heap[k]?)→Below r W W'→wpList P ops Q rest (a.put o.dst undef) W'):wpList P ops Q (o::rest) a W:=by
 refine wpList_plain hgd (fun K hK'=>?_)
 obtain⟨W',hr,h1,h2,h3,h4⟩:=run_keys_put h ht hk hs hl
 unfold Oper.wp
 simp [execOp,ho,hm,hx,hv,hr,Result.andThen]
 exact hK' _ _ (hn W' h1 h2 h3 h4)
namespace Tk
def tv(kd:Int)(t:ByteArray)(n a:Int):Value:=.agg #[.int .i64 kd,.string t,.int .i64 n,.int .i64 a]
def TokRet(R:Tk.R)(a:Int)(off:Nat)(e:Ending):Prop:=
 match R with
 | .ok (kd,w,n,m)=>∃ t:ByteArray,t.data.toList=w∧e=.returned (.tuple #[tv kd t n a,.int .i64 ((m+off:Nat):Int),.int .i64 0])
 | .error c=>∃ f t n a' m,e=.returned (.tuple #[tv f t n a',.int .i64 m,.int .i64 c])
theorem extract_list(s:ByteArray)(i j:Nat):(s.extract i j).data.toList=(s.data.toList.drop i).take (j - i):=by
 have:=Lib.extract_toList s i j
 rw [ByteArray.toList_eq]at this
 exact this
theorem tw_take(p:UInt8→Bool)(l:List UInt8):l.takeWhile p=l.take (l.takeWhile p).length:=by
 induction l with
 | nil=>rfl
 | cons c t ih =>
  rw [List.takeWhile_cons]
  split
  ·rw [List.length_cons,List.take_succ_cons,← ih]
  ·simp
theorem tw_in(s:ByteArray)(p:UInt8→Bool){k T j:Nat}(hk:k<s.size)(hp:p s[k]=true)(h:T=j+((s.data.toList.drop k).takeWhile p).length) :
  T=(j+1)+((s.data.toList.drop (k+1)).takeWhile p).length:=by
 rw [drop_at s k hk,List.takeWhile_cons,if_pos hp,List.length_cons]at h;omega
theorem tw_out(s:ByteArray)(p:UInt8→Bool){k T j:Nat}(hk:k<s.size)(hp:p s[k]=false)(h:T=j+((s.data.toList.drop k).takeWhile p).length):T=j:=by
 rw [drop_at s k hk,List.takeWhile_cons,if_neg (by simp [hp])]at h;simpa using h
theorem tw_end(s:ByteArray)(p:UInt8→Bool){k T j:Nat}(hk:¬ k<s.size)(h:T=j+((s.data.toList.drop k).takeWhile p).length):T=j:=by
 rw [List.drop_eq_nil_of_le (by simp;omega)]at h;simpa using h
theorem tw_extract(s:ByteArray)(p:UInt8→Bool){i k:Nat}(hT:((s.data.toList.drop i).takeWhile p).length=k - i):(s.data.toList.drop i).takeWhile p=(s.extract i k).data.toList:=by
 rw [extract_list,← hT,← tw_take]
theorem take1_at(s:ByteArray)(k:Nat)(hk:k<s.size):(s.data.toList.drop k).take 1=[s[k]]:=by rw [drop_at s k hk];rfl
theorem take1_end(s:ByteArray)(k:Nat)(hk:¬ k<s.size):(s.data.toList.drop k).take 1=[]:=by rw [List.drop_eq_nil_of_le (by simp;omega)];rfl
theorem textT_at(s:ByteArray){i k:Nat}(hT:((s.data.toList.drop i).takeWhile plain).length=k - i)(hik:i≤k) :
  textT (s.data.toList.drop i)=if (s.data.toList.drop k).take 1=[34]then(if 64<k - i then .error 2 else .ok (5,(s.extract i k).data.toList,0,k - i+2))else .error 90:=by
 unfold textT
 simp only [hT,List.drop_drop,show i+(k - i)=k by omega]
 rw [tw_extract s plain hT]
theorem wordT_at(s:ByteArray){i k:Nat}(hT:((s.data.toList.drop i).takeWhile inside).length=k - i) :
  wordT (s.data.toList.drop i)=if (s.extract i k).data.toList∈keys then .ok (2,(s.extract i k).data.toList,0,k - i)else if 24<k - i then .error 2 else .ok (1,(s.extract i k).data.toList,0,k - i):=by
 unfold wordT
 simp only [hT]
 rw [tw_extract s inside hT]
def Tab(w:World)(b:Nat)(p:UInt8→Bool):Prop:=b<w.heap.size∧∀ c:UInt8,w.cell? ⟨b,c.toNat,none⟩=some (.bool (p c))
theorem Tab.keep{w w':World}{b B:Nat}{p:UInt8→Bool}(h:Tab w b p)(hb:Below B w w')(hB:b<B):Tab w' b p:=
 ⟨Nat.lt_of_lt_of_le h.1 hb.size,fun c=>(hb.cell (p:=⟨b,c.toNat,none⟩) hB).trans (h.2 c)⟩
structure Lx(w:World)(x b1 b2 b3 b4 m:Nat):Prop where
 x0:x<w.heap.size
 c1:w.cell? ⟨x,0,none⟩=some (.pointer (some ⟨b1,0,none⟩))
 c2:w.cell? ⟨x,1,none⟩=some (.pointer (some ⟨b2,0,none⟩))
 c3:w.cell? ⟨x,2,none⟩=some (.pointer (some ⟨b3,0,none⟩))
 c4:w.cell? ⟨x,3,none⟩=some (.pointer (some ⟨b4,0,none⟩))
 c5:w.cell? ⟨x,4,none⟩=some (.map (some m))
 t1:Tab w b1 letter
 t2:Tab w b2 inside
 t3:Tab w b3 digit
 t4:Tab w b4 hexa
 ks:KeysIn w m keys
theorem Lx.below{w w':World}{x b1 b2 b3 b4 m:Nat}(h:Lx w x b1 b2 b3 b4 m)(hb:Below w.heap.size w w'):Lx w' x b1 b2 b3 b4 m:=
 ⟨Nat.lt_of_lt_of_le h.x0 hb.size,(hb.cell (p:=⟨x,0,none⟩) h.x0).trans h.c1,(hb.cell (p:=⟨x,1,none⟩) h.x0).trans h.c2,(hb.cell (p:=⟨x,2,none⟩) h.x0).trans h.c3,(hb.cell (p:=⟨x,3,none⟩) h.x0).trans h.c4,(hb.cell (p:=⟨x,4,none⟩) h.x0).trans h.c5,
  h.t1.keep hb h.t1.1,h.t2.keep hb h.t2.1,h.t3.keep hb h.t3.1,h.t4.keep hb h.t4.1,h.ks.below hb h.ks.lt⟩
end Tk
theorem text_any(s:ByteArray)(w:World)(hs:s.size<4294967281)(h1:1≤s.size)(R:Tk.R)(hR:Tk.textT (s.data.toList.drop 1)=R) :
  Calls Tryz.prog 95 #[.string s] w fun e w'=>Tk.TokRet R 0 0 e∧∃ g,w'=more w g:=by
 have hR:=hid hR
 go_enter Tryz.func95,Tryz.ntmps95
 go_wp2
 go_loop [5] (fun i=>∃ k:Nat,1≤k∧k≤s.size∧i=.int .i64 k∧Hid (((s.data.toList.drop 1).takeWhile Tk.plain).length=(k - 1)+((s.data.toList.drop k).takeWhile Tk.plain).length)) (fun i=>s.size - (intOf i).toNat)
 case atStart=>exact⟨1,by omega,by omega,rfl,hid (by simp)⟩
 case round =>
  obtain⟨k,hk1,hk,rfl,H⟩:=hrel
  by_cases hlt:k<s.size
  ·have HA:=hid (Tk.take1_at s k hlt)
   have HI:=hid (fun hp=>Tk.tw_in s Tk.plain (T:=((s.data.toList.drop 1).takeWhile Tk.plain).length) (j:=k - 1) hlt hp H.out)
   have HO:=hid (fun hp=>hR.out.symm.trans (Tk.textT_at s (Tk.tw_out s Tk.plain (T:=((s.data.toList.drop 1).takeWhile Tk.plain).length) (j:=k - 1) hlt hp H.out) hk1))
   clear H
   generalize hc:s[k]=c at *
   have hb:c.toNat<256:=c.toNat_lt
   by_cases h34:c.toNat=34
   ·have hc34:c=34:=by rw [← UInt8.toNat_inj];exact h34
    have HV:=hid (HO.out (by subst hc34;rfl))
    rw [HA.out,hc34,if_pos rfl]at HV
    have e1:((c.toNat:Int) != 34)=false:=by simp;omega
    clear HI HO HA hc34
    by_cases h64:64<k - 1
    ·rw [if_pos h64]at HV
     have h64':(64:Int)<(k:Int) - 1:=by omega
     go_wp2
     go_returns
     refine⟨?_,more_of_below bT⟩
     rw [HV.out]
     exact⟨_,_,_,_,_,rfl⟩
    ·rw [if_neg h64]at HV
     have h64':(k:Int) - 1≤64:=by omega
     go_wp2
     go_returns
     refine⟨?_,more_of_below bT⟩
     rw [HV.out]
     refine⟨_,rfl,?_⟩
     rw [show((k - 1+2+0:Nat):Int)=(k:Int)+1 by omega]
     rfl
   ·have e1:((c.toNat:Int) != 34)=true:=by simp;omega
    by_cases h32:32≤c.toNat
    ·have e2:(32:Int)≤(c.toNat:Int):=by omega
     have HN:=hid (HI.out (by simp [Tk.plain,h32];intro h;exact h34 (by rw [h];rfl)))
     clear HI HO HA
     go_wp2
     go_round
     case rel=>exact⟨k+1,by omega,by omega,by go_num,hid (by rw [HN.out];omega)⟩
     case measure=>simp [intOf];omega
    ·have HV:=hid (HO.out (by simp [Tk.plain];omega))
     rw [HA.out,if_neg (by intro h;simp at h;exact h34 (by rw [h];rfl))]at HV
     have e2:(c.toNat:Int)<32:=by omega
     clear HI HO HA
     go_wp2
     go_returns
     refine⟨?_,more_of_below bT⟩
     rw [HV.out]
     exact⟨_,_,_,_,_,rfl⟩
  ·have HV:=hid (hR.out.symm.trans (Tk.textT_at s (Tk.tw_end s Tk.plain (T:=((s.data.toList.drop 1).takeWhile Tk.plain).length) (j:=k - 1) hlt H.out) hk1))
   rw [Tk.take1_end s k hlt,if_neg (by simp)]at HV
   clear H
   go_wp2
   go_returns
   refine⟨?_,more_of_below bT⟩
   rw [HV.out]
   exact⟨_,_,_,_,_,rfl⟩
end Go.Proofs.YtlhmkfcbldghfaaGreatDoor
