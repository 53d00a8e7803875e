/- The walks of what the waking call of the console does with a farm: New,a run without an image,a file of one byte. Conditions: the farm is new. -/
import Derived.Test.YthkegfdijohpaaaGreatDoorCnQ
import Derived.Test.YthkegfdijohpaaaGreatDoorMapV
import Derived.WalkLawsBesides
import Derived.WalkSpells
import Derived.Lib.LazyBuf
import Derived.Laws.Rows
import Derived.Laws.CopyRow
import Derived.Laws.CopyOwn
import Derived.Laws.Tables
import Derived.StillTailTactics
namespace Go.Proofs.YthkegfdijohpaaaGreatDoor
set_option linter.all false
open Go.Lib (hid)
set_option maxRecDepth 1000000
set_option maxHeartbeats 16000000
open Go.RowKit
namespace Cn
def ans(c:Int):Value:=.agg #[.int .i64 c,.int .i64 0,.int .u32 0,.slice none 0 0,.int .i64 0,.int .i64 0,.string ⟨#[]⟩,.int .i64 0,.int .i64 0]
end Cn
theorem refused_any(c:Int)(w:World):Calls Tryz.prog 48 #[.int .i64 c,.int .i64 0] w fun e w'=>e=.returned (Cn.ans c)∧∃ g,w'=more w g:=by
 go_enter Tryz.func48,Tryz.ntmps48
 go_wp2
 refine bodyPost_ret (v:=Cn.ans c) (by simp [results,Tryz.results48,go_sem,Cn.ans];try rfl) rfl ⟨rfl,more_of_below bT⟩
theorem snew_any(w:World):Calls Tryz.prog 38 #[] w fun e w'=>e=.returned (.pointer (some ⟨w.heap.size,0,none⟩))∧w'=w.alloc (.cells #[.map none] 101):=by
 go_enter Tryz.func38,Tryz.ntmps38
 go_wp2
 go_ret
 exact⟨rfl,rfl⟩
theorem Cn.szl(u:World)(o:Obj):(u.alloc o).heap.size=u.heap.size+1:=Array.size_push ..
structure Cn.Fs(W:World)(h:Nat):Prop where
 s:W.heap[h]?=some (.cells #[.map none] 101)
 f:W.heap[h+1]?=some (.cells #[.pointer (some ⟨h,0,none⟩),.slice none 0 0,.int .i64 0,.slice none 0 0,.bool false] 84)
theorem Cn.Fs.lt{W:World}{h:Nat}(H:Cn.Fs W h):h+1<W.heap.size:=(Array.getElem?_eq_some_iff.1 H.f).1
theorem Cn.Fs.keep{W W':World}{h:Nat}(H:Cn.Fs W h){B:Nat}(hb:Below B W W')(hB:h+1<B):Cn.Fs W' h:=⟨(hb.block h (by omega)).trans H.s,(hb.block (h+1) hB).trans H.f⟩
theorem fnew_any(w:World):Calls Tryz.prog 25 #[] w fun e w'=>e=.returned (.pointer (some ⟨w.heap.size+1,0,none⟩))∧(Cn.Fs w' w.heap.size∧w'.heap.size=w.heap.size+2∧Below w.heap.size w w'):=by
 go_enter Tryz.func25,Tryz.ntmps25
 go_wp2_with (go_at_call 38;(with_reducible refine(snew_any _).mono ?_);rintro e w2 ⟨rfl,rfl⟩)
 go_ret
 refine⟨rfl,⟨((MapKept.heap_alloc (w.alloc _) _).2 _ (by rw [Cn.szl];omega)).trans (MapKept.heap_alloc w _).1,?_⟩,by rw [Cn.szl,Cn.szl],bT⟩
 have h1:=(MapKept.heap_alloc (w.alloc (.cells #[.map none] 101)) (.cells #[.pointer (some ⟨w.heap.size,0,none⟩),.slice none 0 0,.int .i64 0,.slice none 0 0,.bool false] 84)).1
 rw [Cn.szl]at h1
 exact h1
theorem frun_no(b:Nat)(o f x y:Int)(n t:ByteArray)(W:World)(c4:W.cell? ⟨b,4,none⟩=some (.bool false))(hb:b<W.heap.size) :
  Calls Tryz.prog 47 #[.pointer (some ⟨b,0,none⟩),.agg #[.int .i64 o,.string n,.string t,.int .i64 f,.int .i64 x,.int .i64 y]] W fun e w'=>e=.returned (Cn.ans 250)∧∃ g,w'=more W g:=by
 go_enter Tryz.func47,Tryz.ntmps47
 go_wp2_with (go_at_call 48;(with_reducible refine(refused_any _ _).mono ?_);rintro e w2 ⟨rfl,g2,rfl⟩;simp only [Cn.ans])
 refine bodyPost_ret (v:=Cn.ans 250) (by simp [results,Tryz.results47,go_sem,Cn.ans];try rfl) rfl ⟨rfl,more_of_below bT⟩
theorem fdo_run(h:Nat)(f:Int)(n t:ByteArray)(W:World)(H:Cn.Fs W h) :
  Calls Tryz.prog 28 #[.pointer (some ⟨h+1,0,none⟩),.agg #[.int .i64 5,.string n,.string t,.int .i64 f,.int .i64 0,.int .i64 0]] W fun e w'=>e=.returned (Cn.ans 250)∧∃ g,w'=more W g:=by
 have hlt:=H.lt
 have c4:W.cell? ⟨h+1,4,none⟩=some (.bool false):=by simp [World.cell?,H.f]
 have HR:=hid (fun b o f x y n t W c4 hb=>frun_no b o f x y n t W c4 hb)
 obtain⟨b,hbe⟩:∃ b,b=h+1:=⟨_,rfl⟩
 rw [← hbe]at c4 hlt ⊢
 have hmk:∀ W:World,(Instr.makeMap 92 none).run Tryz.prog W=.ok (.map (some W.heap.size)) (W.alloc (.map #[] 0)):=fun _=>rfl
 clear H hbe
 go_enter Tryz.func28,Tryz.ntmps28
 go_wp2_with (first|((with_reducible refine wpList_insert_last ?_ Tryz.underlying92 Tryz.underlying3 ?_ ?_ ?_);(focus(first|rfl|(show Value.map (some (W.heap.size+1+1))=_;rw [Cn.szl,Cn.szl])));(focus rfl);(focus rfl);simp only [Act.eval])|((with_reducible refine wpList_look ?_ ?_ ?_ (last_map _ _ _) Tryz.underlying92 Tryz.underlying3 ?_ ?_ ?_);rotate_left 2;(focus(first|rfl|(show Value.map (some (W.heap.size+1+1))=_;rw [Cn.szl,Cn.szl])));(focus rfl);(focus rfl))|(go_at_call 47;go_loud ((with_reducible refine(HR.out _ _ _ _ _ _ _ _ ?_ ?_).mono ?_);(focus(first|assumption|(simp [go_sem];done)|(go_simp;done)));(focus(first|omega|(simp;omega)|(simp [more_size];omega)));rintro e w2 ⟨rfl,g2,rfl⟩;simp only [Cn.ans])))
 refine bodyPost_ret (v:=Cn.ans 250) (by simp [results,Tryz.results28,go_sem,Cn.ans];try rfl) rfl ⟨rfl,more_of_below bT⟩
namespace Cn
section
variable {P:Program}
theorem wpList_store_row{ops:Array Oper}{rest:List Oper}{o:Oper}{a:Act}{w:World}{Q:Exit→Act→World→Prop}(hgd:o.guard=none)(ty:TypeId)(x y:Operand)(ho:o.op=.store ty x y)
  (g:Nat) (hx:a.eval x=.pointer (some ⟨g,0,none⟩)) (cs:Array Value) (hy:(a.eval y).cells=cs) (t:TypeId) (cur:Array Value) (hg:w.heap[g]?=some (.cells cur t (0,0))) (hsz:cur.size=cs.size)
  (hi:(P.info? ty).map (·.size)=some cs.size) (h1:∀ v∈cs.toList,v.oneCell'=true) (h:wpList P ops Q rest (a.put o.dst undef) (w.setRow g cs)):wpList P ops Q (o::rest) a w:=by
 refine wpList_plain hgd fun K hK=>?_
 have hr:=run_storeCells_at (P:=P) g 0 t cs.toList 0 cur w hg (by simp;omega) h1
 have e:(cur.toList.take (0+0)++cs.toList++cur.toList.drop (0+0+cs.toList.length)).toArray=cs:=by
  rw [List.drop_eq_nil_of_le (by simp;omega)];simp
 rw [e]at hr
 have hrun:(storeVar ty ⟨g,0,none⟩ (a.eval y)).run P w=.ok () (w.setRow g cs):=by
  cases hq:P.info? ty with
  | none=>simp [hq]at hi
  | some i =>
   have hs:cs.size=i.size:=by simp [hq]at hi;omega
   simp [storeVar,sizeOf,typeInfo,hq,hy,hs,hr]
 unfold Oper.wp execOp
 simp only [ho,hx,Instr.storeAt,Instr.sureAddr,Sem.run_bind,Sem.run_pure,Result.andThen_ok,hrun]
 exact hK _ _ h
theorem still_load_row{o:Oper}{a:Act}{w:World}{next:Act→Prop}(ty:TypeId)(x:Operand)(ho:o.op=.load ty x)(g:Nat)(hx:a.eval x=.pointer (some ⟨g,0,none⟩))(t:TypeId)(cs:Array Value)(fr:Nat × Nat)(d:TypeDesc)(hg:w.heap[g]?=some (.cells cs t fr))
  (hu:P.underlying ty=some d) (hd:(match d with | .struct _ | .array _ _=>true|_=>false)=true) (hi:(P.info? ty).map (·.size)=some cs.size)
  (h:next (a.put o.dst (.agg cs))):o.still P a w next:=by
 have hr:(execOp a.eval o).run P w=.ok (.value (.agg cs)) w:=by
  unfold execOp
  simp only [ho,hx,Instr.loadAt,Instr.sureAddr,Sem.run_bind,Sem.run_pure,Result.andThen_ok,run_loadVar_row w g t ty cs fr d hg hu hd hi]
 unfold Oper.still
 rw [hr,Oper.stillUpon_value]
 exact h
theorem results_two{fn:Func}{p q:Tmp}{ty:TypeId}(h:fn.results=#[.cell p ty,.tmp q])(tmps:Array Value)(w:World)(g:Nat)(t:TypeId)(cs:Array Value)(fr:Nat × Nat)(d:TypeDesc)
  (hp:tmps.getD p undef=.pointer (some ⟨g,0,none⟩)) (hg:w.heap[g]?=some (.cells cs t fr)) (hu:P.underlying ty=some d) (hd:(match d with | .struct _ | .array _ _=>true|_=>false)=true) (hi:(P.info? ty).map (·.size)=some cs.size) :
  (results fn tmps).run P w=.ok (.tuple #[.agg cs,tmps.getD q undef]) w:=by
 have hp':tmps[p]?.getD undef=.pointer (some ⟨g,0,none⟩):=by simpa using hp
 simp [results,h,hp',asAddr,run_loadVar_row w g t ty cs fr d hg hu hd hi]
end
end Cn
def Cn.kc:Array Value:=#[.int .u8 65,.int .u8 46,.int .u8 77,.int .u8 111,.int .u8 100,.int .u8 0,.int .u8 0,.int .u8 0,.int .u8 0,.int .u8 0,.int .u8 0,.int .u8 0,.int .u8 0,.int .u8 0,.int .u8 0,.int .u8 0,.int .u8 0,.int .u8 0,.int .u8 0,.int .u8 0,.int .u8 0,.int .u8 0,.int .u8 0,.int .u8 0]
def Cn.amod:Value:=.agg Cn.kc
theorem Cn.kc_one:∀ v∈Cn.kc.toList,v.oneCell'=true:=by unfold Cn.kc;simp [Value.oneCell']
theorem amod_chk(em:Bool)(W:World):(Instr.checkKey em 10000 155 Cn.amod).run Tryz.prog W=.ok () W:=by cases em <;> kernel_rfl
theorem amod_fnd(W:World):(Instr.findKey 155 Cn.amod []).run Tryz.prog W=.ok none W:=by kernel_rfl
theorem look_nil(W:World):(Instr.lookup 99 (.map none) Cn.amod true).run Tryz.prog W=.ok (.tuple #[.string ⟨#[]⟩,.bool false]) W:=by
 have hz:(zeroValue 9).run Tryz.prog W=.ok (.string ⟨#[]⟩) W:=by kernel_rfl
 simp [Instr.lookup,run_underlying Tryz.underlying99,amod_chk,amod_fnd,hz]
theorem put_first(W:World)(b:Nat)(v:Value)(hb:W.heap[b]?=some (.map #[] 0)):(Instr.mapUpdate 99 (.map (some b)) Cn.amod v).run Tryz.prog W=.ok () { W with heap:=W.heap.setIfInBounds b (.map #[{ key:=Cn.amod,val:=v,born:=0 }] 1) }:=by
 simp [Instr.mapUpdate,run_underlying Tryz.underlying99,MapKept.run_getObj_map hb,amod_chk,amod_fnd,MapKept.run_setObj_map _ hb]
theorem Cn.setc5(W:World)(b:Nat):W.setCells b 0 ((⟨#[65,46,77,111,100]⟩:ByteArray).data.toList.map fun x=>Value.int .u8 (x.toNat:Int))=((((W.setCell ⟨b,0,none⟩ (.int .u8 65)).setCell ⟨b,1,none⟩ (.int .u8 46)).setCell ⟨b,2,none⟩ (.int .u8 77)).setCell ⟨b,3,none⟩ (.int .u8 111)).setCell ⟨b,4,none⟩ (.int .u8 100):=rfl
theorem Cn.set_last(W:World)(cs:Array Value)(t:TypeId)(i:Nat)(v:Value):(W.alloc (.cells cs t)).setCell ⟨W.heap.size,i,none⟩ v=W.alloc (.cells (cs.setIfInBounds i v) t):=by
 have h:((W.heap.push (.cells cs t)).modify W.heap.size (fun | .cells c elem frozen => .cells (c.setIfInBounds i v) elem frozen|o=>o))=W.heap.push (.cells (cs.setIfInBounds i v) t):=by
  apply Array.ext
  ·simp
  ·intro k h1 h2
   simp only [Array.size_modify,Array.size_push]at h1
   rw [Array.getElem_modify]
   by_cases hk:W.heap.size=k
   ·subst hk;simp
   ·rw [if_neg hk,Array.getElem_push_lt (by omega),Array.getElem_push_lt (by omega)]
 exact congrArg (fun h=>({ W with heap:=h }:World)) h
theorem Cn.copied(w:World)(A:Obj):((w.alloc A).alloc (.cells #[.int .u8 0,.int .u8 0,.int .u8 0,.int .u8 0,.int .u8 0,.int .u8 0,.int .u8 0,.int .u8 0,.int .u8 0,.int .u8 0,.int .u8 0,.int .u8 0,.int .u8 0,.int .u8 0,.int .u8 0,.int .u8 0,.int .u8 0,.int .u8 0,.int .u8 0,.int .u8 0,.int .u8 0,.int .u8 0,.int .u8 0,.int .u8 0] 155)).setCells (w.heap.size+1) 0 ((⟨#[65,46,77,111,100]⟩:ByteArray).data.toList.map fun x=>Value.int .u8 (x.toNat:Int))=(w.alloc A).alloc (.cells Cn.kc 155):=by
 rw [← Cn.szl w A,Cn.setc5,Cn.set_last,Cn.set_last,Cn.set_last,Cn.set_last,Cn.set_last]
 rfl
theorem of_amod(w:World):Calls Tryz.prog 81 #[.string ⟨#[65,46,77,111,100]⟩] w fun e w'=>e=.returned (.tuple #[Cn.amod,.bool true])∧∃ g,w'=more w g:=by
 have HN:=hid (fun u=>name_same ⟨#[65,46,77,111,100]⟩ u)
 rw [show Cn.nameC (⟨#[65,46,77,111,100]⟩:ByteArray).data.toList=true by decide]at HN
 go_enter Tryz.func81,Tryz.ntmps81
 go_wp2
 rw [run_copy_string (P:=Tryz.prog) _ 65 9 _ 5 (w.heap.size+1) 0 24 24 ⟨#[65,46,77,111,100]⟩ Tryz.underlying65 (fun _=>by kernel_rfl) (by decide) ?_ ?_]
 rotate_left 1
 ·intro j hj
  have h5:j<5:=hj
  rcases(show j=0∨j=1∨j=2∨j=3∨j=4 by omega)with rfl|rfl|rfl|rfl|rfl <;>(go_simp;try rfl)
 ·intro j hj
  have h5:j<5:=hj
  rcases(show j=0∨j=1∨j=2∨j=3∨j=4 by omega)with rfl|rfl|rfl|rfl|rfl <;>(go_simp;try rfl)
 rw [Cn.copied]
 obtain⟨W1,hW1⟩:∃ W1,W1=(w.alloc (.cells #[.int .u8 0,.int .u8 0,.int .u8 0,.int .u8 0,.int .u8 0,.int .u8 0,.int .u8 0,.int .u8 0,.int .u8 0,.int .u8 0,.int .u8 0,.int .u8 0,.int .u8 0,.int .u8 0,.int .u8 0,.int .u8 0,.int .u8 0,.int .u8 0,.int .u8 0,.int .u8 0,.int .u8 0,.int .u8 0,.int .u8 0,.int .u8 0] 155)).alloc (.cells Cn.kc 155):=⟨_,rfl⟩
 have hk1:W1.heap[w.heap.size+1]?=some (.cells Cn.kc 155 (0,0)):=by rw [hW1];exact heap_alloc2_new w _ _
 have hz1:W1.heap[w.heap.size]?=some (.cells #[.int .u8 0,.int .u8 0,.int .u8 0,.int .u8 0,.int .u8 0,.int .u8 0,.int .u8 0,.int .u8 0,.int .u8 0,.int .u8 0,.int .u8 0,.int .u8 0,.int .u8 0,.int .u8 0,.int .u8 0,.int .u8 0,.int .u8 0,.int .u8 0,.int .u8 0,.int .u8 0,.int .u8 0,.int .u8 0,.int .u8 0,.int .u8 0] 155 (0,0)):=by rw [hW1];exact heap_alloc2_old w _ _
 have HB1:=hid (show Below w.heap.size w W1 by rw [hW1];exact bT)
 rw [← hW1]
 clear hW1
 go_simp
 go_wp2
 refine wp_region_still_tail 3 (by kernel_rfl) (by kernel_rfl) ?_
 simp only [List.take_succ_cons,List.take_zero,List.drop_succ_cons,List.drop_zero]
 obtain⟨W2,hW2⟩:∃ W2,W2=({ W1 with drawn:=W1.drawn+1 }:World):=⟨_,rfl⟩
 have hk2:W2.heap[w.heap.size+1]?=some (.cells Cn.kc 155 (0,0)):=by rw [hW2];exact hk1
 have hz2:W2.heap[w.heap.size]?=some (.cells #[.int .u8 0,.int .u8 0,.int .u8 0,.int .u8 0,.int .u8 0,.int .u8 0,.int .u8 0,.int .u8 0,.int .u8 0,.int .u8 0,.int .u8 0,.int .u8 0,.int .u8 0,.int .u8 0,.int .u8 0,.int .u8 0,.int .u8 0,.int .u8 0,.int .u8 0,.int .u8 0,.int .u8 0,.int .u8 0,.int .u8 0,.int .u8 0] 155 (0,0)):=by rw [hW2];exact hz1
 have HB2:=hid (show Below w.heap.size w W2 by rw [hW2];exact HB1.out.drew)
 rw [← hW2]
 clear hW2 hk1 hz1 HB1
 refine wpStill_step (fun K hK=>?_)
 rw [if_pos (by rfl)]
 refine Cn.still_load_row 155 _ rfl (w.heap.size+1) rfl 155 Cn.kc (0,0) _ hk2 Tryz.underlying155 rfl (by kernel_rfl) ?_
 refine hK _ ?_
 clear hK K
 go_simp
 still_step
 still_call (HN.out _)
 refine wpStill_nil ?_
 refine Cn.wpList_store_row rfl 155 _ _ rfl w.heap.size rfl Cn.kc rfl 155 _ hz2 rfl (by kernel_rfl) Cn.kc_one ?_
 go_wp2
 refine bodyPost_ret (Cn.results_two rfl _ _ w.heap.size 155 Cn.kc (0,0) _ rfl (setRow_heap _ _ _ _ _ _ hz2) Tryz.underlying155 rfl (by kernel_rfl)) rfl ?_
 exact⟨rfl,more_of_below (below_setRow HB2.out (Nat.le_refl _) _)⟩
theorem Cn.set_row_last(W:World)(cs ds:Array Value)(t:TypeId):(W.alloc (.cells cs t)).setRow W.heap.size ds=W.alloc (.cells ds t):=by
 have h:((W.heap.push (.cells cs t)).modify W.heap.size (fun | .cells _ elem frozen => .cells ds elem frozen|o=>o))=W.heap.push (.cells ds t):=by
  apply Array.ext
  ·simp
  ·intro k h1 h2
   simp only [Array.size_modify,Array.size_push]at h1
   rw [Array.getElem_modify]
   by_cases hk:W.heap.size=k
   ·subst hk;simp
   ·rw [if_neg hk,Array.getElem_push_lt (by omega),Array.getElem_push_lt (by omega)]
 exact congrArg (fun h=>({ W with heap:=h }:World)) h
theorem Cn.put_store(w:World)(g:Came):(storeCells ⟨w.heap.size+g.o.size,0,none⟩ Cn.kc.toList).run Tryz.prog ((more w g).alloc (.cells #[.int .u8 0,.int .u8 0,.int .u8 0,.int .u8 0,.int .u8 0,.int .u8 0,.int .u8 0,.int .u8 0,.int .u8 0,.int .u8 0,.int .u8 0,.int .u8 0,.int .u8 0,.int .u8 0,.int .u8 0,.int .u8 0,.int .u8 0,.int .u8 0,.int .u8 0,.int .u8 0,.int .u8 0,.int .u8 0,.int .u8 0,.int .u8 0] 155))=.ok () ((more w g).alloc (.cells Cn.kc 155)):=by
 rw [← more_size]
 have hr:=run_storeCells_at (P:=Tryz.prog) (more w g).heap.size 0 155 Cn.kc.toList 0 #[.int .u8 0,.int .u8 0,.int .u8 0,.int .u8 0,.int .u8 0,.int .u8 0,.int .u8 0,.int .u8 0,.int .u8 0,.int .u8 0,.int .u8 0,.int .u8 0,.int .u8 0,.int .u8 0,.int .u8 0,.int .u8 0,.int .u8 0,.int .u8 0,.int .u8 0,.int .u8 0,.int .u8 0,.int .u8 0,.int .u8 0,.int .u8 0] ((more w g).alloc (.cells #[.int .u8 0,.int .u8 0,.int .u8 0,.int .u8 0,.int .u8 0,.int .u8 0,.int .u8 0,.int .u8 0,.int .u8 0,.int .u8 0,.int .u8 0,.int .u8 0,.int .u8 0,.int .u8 0,.int .u8 0,.int .u8 0,.int .u8 0,.int .u8 0,.int .u8 0,.int .u8 0,.int .u8 0,.int .u8 0,.int .u8 0,.int .u8 0] 155)) (heap_alloc_new _ _) (by decide) Cn.kc_one
 rw [hr,show(List.take (0+0) (#[.int .u8 0,.int .u8 0,.int .u8 0,.int .u8 0,.int .u8 0,.int .u8 0,.int .u8 0,.int .u8 0,.int .u8 0,.int .u8 0,.int .u8 0,.int .u8 0,.int .u8 0,.int .u8 0,.int .u8 0,.int .u8 0,.int .u8 0,.int .u8 0,.int .u8 0,.int .u8 0,.int .u8 0,.int .u8 0,.int .u8 0,.int .u8 0]:Array Value).toList++Cn.kc.toList++List.drop (0+0+Cn.kc.toList.length) (#[.int .u8 0,.int .u8 0,.int .u8 0,.int .u8 0,.int .u8 0,.int .u8 0,.int .u8 0,.int .u8 0,.int .u8 0,.int .u8 0,.int .u8 0,.int .u8 0,.int .u8 0,.int .u8 0,.int .u8 0,.int .u8 0,.int .u8 0,.int .u8 0,.int .u8 0,.int .u8 0,.int .u8 0,.int .u8 0,.int .u8 0,.int .u8 0]:Array Value).toList).toArray=Cn.kc from rfl,Cn.set_row_last]
def Cn.Oth(w W:World)(h:Nat):Prop:=w.heap.size≤W.heap.size∧W.os=w.os∧W.tape=w.tape∧W.output=w.output∧∀ k,k<w.heap.size→k ≠ h→W.heap[k]?=w.heap[k]?
theorem Cn.oth_of{w W:World}{h:Nat}(hb:Below w.heap.size w W):Cn.Oth w W h:=⟨hb.size,hb.os,hb.tape,hb.output,fun k hk _=>hb.block k hk⟩
theorem Cn.Oth.set1{w W:World}{h i:Nat}{v:Value}(H:Cn.Oth w W h):Cn.Oth w (W.setCell ⟨h,i,none⟩ v) h:=by
 obtain⟨h1,h2,h3,h4,h5⟩:=H
 have hsz:(W.setCell ⟨h,i,none⟩ v).heap.size=W.heap.size:=Array.size_modify ..
 exact⟨by omega,h2,h3,h4,fun k hk hne=>(heap_setCell_other _ _ _ _ hne).trans (h5 k hk hne)⟩
theorem Cn.Oth.al{w W:World}{h:Nat}(H:Cn.Oth w W h)(o:Obj):Cn.Oth w (W.alloc o) h:=by
 obtain⟨h1,h2,h3,h4,h5⟩:=H
 exact⟨by have:=Cn.szl W o;omega,h2,h3,h4,fun k hk hne=>((MapKept.heap_alloc W o).2 k (by omega)).trans (h5 k hk hne)⟩
theorem Cn.Oth.lay{w W:World}{h b:Nat}{o:Obj}(H:Cn.Oth w W h)(hb:w.heap.size≤b):Cn.Oth w { W with heap:=W.heap.setIfInBounds b o } h:=by
 obtain⟨h1,h2,h3,h4,h5⟩:=H
 refine⟨by simpa using h1,h2,h3,h4,fun k hk hne=>?_⟩
 rw [← h5 k hk hne]
 show(W.heap.setIfInBounds b o)[k]?=_
 rw [Array.getElem?_setIfInBounds_ne (by omega)]
theorem put_amod(h:Nat)(w:World)(hs:w.heap[h]?=some (.cells #[.map none] 101 (0,0))):Calls Tryz.prog 60 #[.pointer (some ⟨h,0,none⟩),.string ⟨#[65,46,77,111,100]⟩,.string ⟨#[0]⟩] w fun e w'=>e=.returned (.int .i64 0)∧Cn.Oth w w' h:=by
 have hlt:h<w.heap.size:=(Array.getElem?_eq_some_iff.1 hs).1
 have HO:=hid (fun u=>of_amod u)
 go_enter Tryz.func60,Tryz.ntmps60
 go_wp2_with (go_at_call 81;(with_reducible refine(HO.out _).mono ?_);rintro e w2 ⟨rfl,g2,rfl⟩;simp only [Cn.amod];have hst:=Cn.put_store w g2)
 obtain⟨W3,hW3⟩:∃ W3,W3=(more w g2).alloc (.cells Cn.kc 155):=⟨_,rfl⟩
 have hb3:Below w.heap.size w W3:=by rw [hW3];exact bT
 have hk3:W3.heap[w.heap.size+g2.o.size]?=some (.cells Cn.kc 155 (0,0)):=by rw [hW3,← more_size];exact heap_alloc_new _ _
 have hs3:W3.heap[h]?=some (.cells #[.map none] 101 (0,0)):=(hb3.block h hlt).trans hs
 have HT3:=hid (Cn.oth_of (h:=h) hb3)
 rw [← hW3]
 clear hW3 hst hb3
 obtain⟨bk,hbk⟩:∃ bk,bk=w.heap.size+g2.o.size:=⟨_,rfl⟩
 have hwb:w.heap.size≤bk:=by omega
 rw [← hbk]at hk3 ⊢
 clear hbk
 refine wp_region_still_lit (by kernel_rfl) (by kernel_rfl) ?_
 obtain⟨W4,hW4⟩:∃ W4,W4=({ W3 with drawn:=W3.drawn+1 }:World):=⟨_,rfl⟩
 have hk4:W4.heap[bk]?=some (.cells Cn.kc 155 (0,0)):=by rw [hW4];exact hk3
 have hs4:W4.heap[h]?=some (.cells #[.map none] 101 (0,0)):=by rw [hW4];exact hs3
 have HT4:=hid (show Cn.Oth w W4 h by rw [hW4];exact HT3.out)
 rw [← hW4]
 clear hW4 hk3 hs3 HT3
 have m4:W4.cell? ⟨h,0,none⟩=some (.map none):=cell_of_row _ _ _ _ _ _ hs4
 have f4:W4.frozen? ⟨h,0,none⟩=false:=frozen_of_row _ _ _ _ _ hs4
 have hl4:h<W4.heap.size:=(Array.getElem?_eq_some_iff.1 hs4).1
 have hlk:(Instr.lookup 99 (.map none) (.agg Cn.kc) true).run Tryz.prog W4=.ok (.tuple #[.string ⟨#[]⟩,.bool false]) W4:=look_nil W4
 have HK4:=hid hk4
 have HS4:=hid hs4
 clear hk4 hs4
 still_step
 still_step
 still_step
 still_step
 refine wpStill_step (fun K hK=>?_)
 rw [if_pos (by rfl)]
 refine Cn.still_load_row 155 _ rfl bk rfl 155 Cn.kc (0,0) _ HK4.out Tryz.underlying155 rfl (by kernel_rfl) ?_
 refine hK _ ?_
 clear hK K
 go_simp
 repeat still_step
 refine wpStill_nil ?_
 have hmk:∀ W:World,(Instr.makeMap 99 none).run Tryz.prog W=.ok (.map (some W.heap.size)) (W.alloc (.map #[] 0)):=fun _=>rfl
 have hmq:∀ W:World,(binOp BinOp.eql 99 (.map none) (.map none)).run Tryz.prog W=.ok (.bool true) W:=fun _=>by kernel_rfl
 go_wp2
 obtain⟨b5,hb5⟩:∃ b5,b5=W4.heap.size:=⟨_,rfl⟩
 obtain⟨W5,hW5⟩:∃ W5,W5=(W4.setCell ⟨h,0,none⟩ (.map (some b5))).alloc (.map #[] 0):=⟨_,rfl⟩
 have hkl:bk<W4.heap.size:=(Array.getElem?_eq_some_iff.1 HK4.out).1
 have hsz:(W4.setCell ⟨h,0,none⟩ (.map (some b5))).heap.size=W4.heap.size:=Array.size_modify ..
 have hk5:W5.heap[bk]?=some (.cells Cn.kc 155 (0,0)):=by
  rw [hW5,(MapKept.heap_alloc (W4.setCell ⟨h,0,none⟩ (.map (some b5))) _).2 bk (by omega),heap_setCell_other _ _ _ _ (show bk ≠ h by omega)];exact HK4.out
 have hm5:W5.heap[b5]?=some (.map #[] 0):=by
  have h1:=(MapKept.heap_alloc (W4.setCell ⟨h,0,none⟩ (.map (some b5))) (.map #[] 0)).1
  rw [hsz,← hb5]at h1
  rw [hW5];exact h1
 have hs5:W5.heap[h]?=some (.cells #[.map (some b5)] 101 (0,0)):=by
  rw [hW5,(MapKept.heap_alloc (W4.setCell ⟨h,0,none⟩ (.map (some b5))) _).2 h (by omega),heap_setCell_same _ _ _ #[.map none] 101 _ HS4.out];rfl
 have HT5:=hid (show Cn.Oth w W5 h by rw [hW5];exact HT4.out.set1.al _)
 have hwb5:w.heap.size≤b5:=by have:=HT4.out.1;omega
 rw [← hb5,← hW5]
 clear hW5 hb5 HT4 HK4 HS4 m4 f4 hl4 hlk hkl hmk hmq hsz
 refine wp_region_still_tail 6 (by kernel_rfl) (by kernel_rfl) ?_
 simp only [List.take_succ_cons,List.take_zero,List.drop_succ_cons,List.drop_zero]
 obtain⟨W6,hW6⟩:∃ W6,W6=({ W5 with drawn:=W5.drawn+1 }:World):=⟨_,rfl⟩
 have hk6:W6.heap[bk]?=some (.cells Cn.kc 155 (0,0)):=by rw [hW6];exact hk5
 have hm6:W6.heap[b5]?=some (.map #[] 0):=by rw [hW6];exact hm5
 have hs6:W6.heap[h]?=some (.cells #[.map (some b5)] 101 (0,0)):=by rw [hW6];exact hs5
 have HT6:=hid (show Cn.Oth w W6 h by rw [hW6];exact HT5.out)
 rw [← hW6]
 clear hW6 hk5 hm5 hs5 HT5
 have m6:W6.cell? ⟨h,0,none⟩=some (.map (some b5)):=cell_of_row _ _ _ _ _ _ hs6
 have hput:(Instr.mapUpdate 99 (.map (some b5)) (.agg Cn.kc) (.string ⟨#[0]⟩)).run Tryz.prog W6=.ok () { W6 with heap:=W6.heap.setIfInBounds b5 (.map #[{ key:=Cn.amod,val:=.string ⟨#[0]⟩,born:=0 }] 1) }:=put_first W6 b5 (.string ⟨#[0]⟩) hm6
 have HK6:=hid hk6
 clear hk6 hm6 hs6
 still_step
 still_step
 still_step
 still_step
 refine wpStill_step (fun K hK=>?_)
 rw [if_pos (by rfl)]
 refine Cn.still_load_row 155 _ rfl bk rfl 155 Cn.kc (0,0) _ HK6.out Tryz.underlying155 rfl (by kernel_rfl) ?_
 refine hK _ ?_
 clear hK K
 go_simp
 repeat still_step
 refine wpStill_nil ?_
 go_wp2
 go_ret
 exact⟨rfl,HT6.out.lay hwb5⟩
end Go.Proofs.YthkegfdijohpaaaGreatDoor
