/- Small laws on maps that a call makes: a literal's entries laid one by one in the last block;a look-up in a map that is known whole. Conditions: the key is new,or found. -/
import Derived.Test.YthkegfdijohpaaaGreatDoorMoreX
import Derived.BigQuiet
import Derived.Deep.QuietTactic
import Derived.Handy
import Derived.Lib.Hide
import Derived.Deep.DeepCutAuto
import Derived.Deep.RegionWith
import Derived.MapKept
namespace Go.Proofs.YthkegfdijohpaaaGreatDoor
set_option linter.all false
open Go.RowKit
section
variable {P:Program} {t k e:TypeId} {d:TypeDesc}
theorem last_map(W:World)(es:Array MapEntry)(c:Nat):(W.alloc (.map es c)).heap[W.heap.size]?=some (.map es c):=(MapKept.heap_alloc W _).1
theorem set_last(W:World)(o o':Obj):({ W.alloc o with heap:=(W.alloc o).heap.setIfInBounds W.heap.size o' }:World)=W.alloc o':=by
 have h:(W.heap.push o).setIfInBounds W.heap.size o'=W.heap.push o':=by
  apply Array.ext
  ·simp
  ·intro i h1 h2
   simp only [Array.size_setIfInBounds,Array.size_push]at h1 h2
   rw [Array.getElem_setIfInBounds (by simpa using h1)]
   simp only [Array.getElem_push]
   split
   ·rename_i h;rw [dif_neg (by omega)]
   ·rename_i h;rw [dif_pos (by omega),dif_pos (by omega)]
 show({ W.alloc o with heap:=(W.heap.push o).setIfInBounds W.heap.size o' }:World)=_
 rw [h];rfl
theorem insert_last(W:World)(es:Array MapEntry)(c:Nat)(key v:Value)(n:Nat)(hn:n=W.heap.size)(ht:P.underlying t=some (.map k e))
  (hk:P.underlying k=some d) (hkey:MapKept.IsKey d key) (hnew:Instr.findNow d key es.toList 0=some none) :
  (Instr.mapUpdate t (.map (some n)) key v).run P (W.alloc (.map es c))=.ok () (W.alloc (.map (es.push { key,val:=v,born:=c }) (c+1))):=by
 subst hn
 have hb:=last_map W es c
 simp [Instr.mapUpdate,run_underlying ht,MapKept.run_getObj_map hb,MapKept.run_checkKey hk hkey,MapKept.run_findKey hk hnew,MapKept.run_setObj_map _ hb]
 exact set_last W _ _
theorem look_ok(W:World)(es:Array MapEntry)(c:Nat)(key v:Value)(r i:Nat)(hb:W.heap[r]?=some (.map es c))(ht:P.underlying t=some (.map k e))
  (hk:P.underlying k=some d) (hkey:MapKept.IsKey d key) (hf:Instr.findNow d key es.toList 0=some (some (i,v))) :
  (Instr.lookup t (.map (some r)) key true).run P W=.ok (.tuple #[v,.bool true]) W:=by
 simp [Instr.lookup,run_underlying ht,MapKept.run_getObj_map hb,MapKept.run_checkKey hk hkey,MapKept.run_findKey hk hf]
theorem look_no(W:World)(es:Array MapEntry)(c:Nat)(key z:Value)(r:Nat)(hb:W.heap[r]?=some (.map es c))(ht:P.underlying t=some (.map k e))
  (hz:(zeroValue e).run P W=.ok z W)
  (hk:P.underlying k=some d) (hkey:MapKept.IsKey d key) (hf:Instr.findNow d key es.toList 0=some none) :
  (Instr.lookup t (.map (some r)) key true).run P W=.ok (.tuple #[z,.bool false]) W:=by
 simp [Instr.lookup,run_underlying ht,MapKept.run_getObj_map hb,MapKept.run_checkKey hk hkey,MapKept.run_findKey hk hf,hz]
end
theorem wpList_insert_last{P:Program}{ops:Array Oper}{rest:List Oper}{Q:Exit→Act→World→Prop}{a:Act}{W:World}{es:Array MapEntry}{c:Nat}{t k e type:TypeId}{d:TypeDesc}
  {m kx vx:Operand} {pos:String} {after:Array Edge} (hm:a.eval m=.map (some W.heap.size)) (ht:P.underlying t=some (.map k e))
  (hk:P.underlying k=some d) (hkey:MapKept.IsKey d (a.eval kx)) (hnew:Instr.findNow d (a.eval kx) es.toList 0=some none)
  (h:wpList P ops Q rest a (W.alloc (.map (es.push { key:=a.eval kx,val:=a.eval vx,born:=c }) (c+1)))) :
  wpList P ops Q ({ dst:=none,op:=.insert t m kx vx,type:=type,pos:=pos,after:=after,guard:=none }::rest) a (W.alloc (.map es c)):=by
 refine wpList_plain rfl (fun K hK=>?_)
 have hr:=insert_last (P:=P) W es c (a.eval kx) (a.eval vx) _ rfl ht hk hkey hnew
 unfold Oper.wp execOp
 simp [hm,hr,Oper.upon,Act.put]
 exact hK _ _ h
theorem wpList_look{P:Program}{ops:Array Oper}{rest:List Oper}{Q:Exit→Act→World→Prop}{a:Act}{W:World}{es:Array MapEntry}{c r dst:Nat}{t k e type:TypeId}{d:TypeDesc}
  {m kx:Operand} {pos:String} {after:Array Edge} (i:Nat) (v:Value) (hm:a.eval m=.map (some r)) (hb:W.heap[r]?=some (.map es c)) (ht:P.underlying t=some (.map k e))
  (hk:P.underlying k=some d) (hkey:MapKept.IsKey d (a.eval kx)) (hf:Instr.findNow d (a.eval kx) es.toList 0=some (some (i,v)))
  (h:wpList P ops Q rest (a.put (some dst) (.tuple #[v,.bool true])) W) :
  wpList P ops Q ({ dst:=some dst,op:=.lookup t m kx true,type:=type,pos:=pos,after:=after,guard:=none }::rest) a W:=by
 refine wpList_plain rfl (fun K hK=>?_)
 have hr:=look_ok (P:=P) W es c (a.eval kx) v r i hb ht hk hkey hf
 unfold Oper.wp execOp
 simp [hm,hr,Oper.upon]
 exact hK _ _ h
theorem wpList_look_no{P:Program}{ops:Array Oper}{rest:List Oper}{Q:Exit→Act→World→Prop}{a:Act}{W:World}{es:Array MapEntry}{c r dst:Nat}{t k e type:TypeId}{d:TypeDesc}
  {m kx:Operand} {pos:String} {after:Array Edge} (z:Value) (hm:a.eval m=.map (some r)) (hb:W.heap[r]?=some (.map es c)) (ht:P.underlying t=some (.map k e)) (hz:(zeroValue e).run P W=.ok z W)
  (hk:P.underlying k=some d) (hkey:MapKept.IsKey d (a.eval kx)) (hf:Instr.findNow d (a.eval kx) es.toList 0=some none)
  (h:wpList P ops Q rest (a.put (some dst) (.tuple #[z,.bool false])) W) :
  wpList P ops Q ({ dst:=some dst,op:=.lookup t m kx true,type:=type,pos:=pos,after:=after,guard:=none }::rest) a W:=by
 refine wpList_plain rfl (fun K hK=>?_)
 have hr:=look_no (P:=P) W es c (a.eval kx) z r hb ht hz hk hkey hf
 unfold Oper.wp execOp
 simp [hm,hr,Oper.upon]
 exact hK _ _ h
theorem bytes_ne{a b:ByteArray}(h:(a.toList == b.toList)=false):(a == b)=false:=by
 rw [Bool.eq_false_iff]at h ⊢
 intro he
 rw [MapKept.bytes_beq]at he
 subst he
 simp at h
theorem bytes_eq{a b:ByteArray}(h:(a.toList == b.toList)=true):a=b:=by
 have h:=eq_of_beq h
 rw [ByteArray.toList_eq,ByteArray.toList_eq]at h
 cases a;cases b
 simp only [ByteArray.mk.injEq]
 exact Array.toList_inj.1 h
theorem str_ne{a b:ByteArray}(h:¬ a=b):(a.toList == b.toList)=false:=by
 rw [Bool.eq_false_iff];exact fun he=>h (bytes_eq he)
end Go.Proofs.YthkegfdijohpaaaGreatDoor
