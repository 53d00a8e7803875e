/- The readers of expressions,types and statements read every text as they should: the walks put together,by induction on the text's length. Conditions: the parser's block is as it is made. -/
import Derived.Test.YtlhmkfcbldghfaaGreatDoorTuIb
import Derived.Test.YtlhmkfcbldghfaaGreatDoorTuK
import Derived.Test.YtlhmkfcbldghfaaGreatDoorTtZ
import Derived.Test.YtlhmkfcbldghfaaGreatDoorTtX
import Derived.Test.YtlhmkfcbldghfaaGreatDoorRegX
import Derived.Deep.RegionHeld3
import Derived.Defers
import Derived.Recover
import Derived.Test.YtlhmkfcbldghfaaGreatDoorFmY
import Derived.Test.YtlhmkfcbldghfaaGreatDoorTuOP
import Derived.Carry
namespace Go.Proofs.YtlhmkfcbldghfaaGreatDoor
set_option linter.all false
open Go.Lib (hid)
set_option maxRecDepth 1000000
set_option maxHeartbeats 16000000
open Go.RowKit
open Fr (is_store setL tyM)
theorem expr_fm(en:Int)(n:Nat)(r:Tr.Rc)(hC:Fr.CR en n r):Fr.CV 147 en n (Tr.exprP en r) Tr.VEx:=by
 have hd:Tr.CF 189 en n (Tr.designP en r):=design_fm en n r hC
 have hf:=factor_any en n r hC.ce hd
 have ht:Tr.CF 219 en n (Tr.termP en r):=term_any en n _ hf (Tr.con_factor en hC.ce.rg)
 have hs:Tr.CF 183 en n (Tr.simpleP en r):=simple_any en n _ ht (Tr.con_term en hC.ce.rg)
 exact expr_any en n _ hs (Tr.con_simple en hC.ce.rg)
theorem stat_fm(en:Int)(n:Nat)(r:Tr.Rc)(hC:Fr.CR en n r):Fr.CV 150 en n (Tr.statO en r) Fr.VSo:=
 stat_any en n r hC (expr_fm en n r hC) (design_fm en n r hC)
theorem read_all(en:Int):∀ n,Fr.CR en n (Tr.pr en n)
 | 0=>⟨⟨Tr.rg_pr en 0,fun _ _ _ _ h=>absurd h (Nat.not_lt_zero _),fun _ _ _ _ h=>absurd h (Nat.not_lt_zero _)⟩,fun _ _ _ _ h=>absurd h (Nat.not_lt_zero _),fun _ _ _ _ h=>absurd h (Nat.not_lt_zero _),fun _ _ _ _ h=>absurd h (Nat.not_lt_zero _)⟩
 | n+1 =>
  have hC:=read_all en n
  have hd:Tr.CF 189 en n (Tr.designP en (Tr.pr en n)):=design_fm en n _ hC
  ⟨⟨Tr.rg_pr en (n+1),fun w B bp l h hp=>expr_fm en n _ hC w B bp l (Nat.le_of_lt_succ h) hp,fun w B bp l h hp=>factor_any en n _ hC.ce hd w B bp l (Nat.le_of_lt_succ h) hp⟩,
   fun w B bp l h hp=>typ_any en n _ hC (qual_any en) (expr_fm en n _ hC) w B bp l (Nat.le_of_lt_succ h) hp,
   fun w B bp l h hp=>open_any en n _ hC (qual_any en) w B bp l (Nat.le_of_lt_succ h) hp,
   fun w B bp l h hp=>stats_any en n _ hC (stat_fm en n _ hC) w B bp l (Nat.le_of_lt_succ h) hp⟩
namespace Tr
theorem last_mapT(W:World)(es:Array MapEntry)(c:Nat):(W.alloc (.map es c)).heap[W.heap.size]?=some (.map es c):=(MapKept.heap_alloc W _).1
theorem set_lastT(W:World)(o o':Obj):({ W.alloc o with heap:=(W.alloc o).heap.setIfInBounds W.heap.size o' }:World)=W.alloc o':=by
 have h:(W.heap.push o).setIfInBounds W.heap.size o'=W.heap.push o':=by
  apply Array.ext
  ·simp
  ·intro i h1 h2
   simp only [Array.size_setIfInBounds,Array.size_push]at h1 h2
   rw [Array.getElem_setIfInBounds (by simpa using h1)]
   simp only [Array.getElem_push]
   split
   ·rename_i h;rw [dif_neg (by omega)]
   ·rename_i h;rw [dif_pos (by omega),dif_pos (by omega)]
 show({ W.alloc o with heap:=(W.heap.push o).setIfInBounds W.heap.size o' }:World)=_
 rw [h];rfl
theorem run_lay(W:World)(es:Array MapEntry)(c:Nat)(key v:Value)(hk:∃ l,keyOf Tryz.prog 113 key=some l)
  (hes:∀ e∈es.toList,∃ l,keyOf Tryz.prog 113 e.key=some l) (hnew:∀ e∈es.toList,e.key ≠ key) :
  (Instr.mapUpdate 114 (.map (some W.heap.size)) key v).run Tryz.prog (W.alloc (.map es c))=.ok () (W.alloc (.map (es.push { key,val:=v,born:=c }) (c+1))):=by
 obtain⟨l,hl⟩:=hk
 have hb:=last_mapT W es c
 have hc:=start_law.check (W.alloc (.map es c)) false hl
 rcases start_law.find (W.alloc (.map es c)) hl es.toList hes with⟨h1,_⟩|⟨j,e,_,h2,h3⟩
 ·simp [Instr.mapUpdate,run_underlying Tryz.underlying114,MapKept.run_getObj_map hb,hc,h1,MapKept.run_setObj_map _ hb]
  exact set_lastT W _ _
 ·exact absurd h3 (hnew e (List.mem_of_getElem? h2))
def litK(i:Nat):Int × List UInt8:=begKeys.getD ((i - 4) / 2) (0,[])
def litI:List Nat:=[4,6,8,10,12,14,16,18,20,22,24,26]
theorem litK_ok:∀ i∈litI,0≤(litK i).1∧(litK i).1≤6∧(litK i).2.length≤100000:=by decide
theorem litK_inj:∀ i∈litI,∀ j∈litI,(litK i).1=(litK j).1→(litK i).2=(litK j).2→i=j:=by decide
theorem litK_all:∀ p∈begKeys,∃ i∈litI,litK i=p:=by decide
def BegPart(d:List Nat)(es:Array MapEntry):Prop:=
 (∀ e∈es.toList,∃ i∈d,e.key=sk (litK i).1 (litK i).2∧e.val=.int .i64 (begV (litK i).1 (litK i).2))∧(∀ i∈d,∃ e∈es.toList,e.key=sk (litK i).1 (litK i).2)
theorem beg_part{d:List Nat}{es:Array MapEntry}(h:BegPart d es)(hd:∀ j,j∈d ↔ j∈litI):BegOk es:=by
 refine⟨fun e he=>?_,fun p hp=>?_⟩
 ·obtain⟨i,hi,hk,hv⟩:=h.1 e he
  obtain⟨h1,h2,h3⟩:=litK_ok i ((hd i).1 hi)
  exact⟨_,_,h1,h2,h3,hk,hv⟩
 ·obtain⟨i,hi,rfl⟩:=litK_all p hp
  exact h.2 i ((hd i).2 hi)
theorem beg_lit{ops:Array Oper}{Q:Exit→Act→World→Prop}{L:Array Bool}{f:Nat}{a:Act}{W:World}{z:Nat}{m:Operand}(ham:a.eval m=.map (some W.heap.size))
  (hB:ckB .any ops L litI z=true) (hZ:ckZ .any ops litI z=true) (hI:ckI .any ops L litI=true)
  (hops:∀ i∈litI,∃ kx vx ty pos after,ops.toList[i]?=some { dst:=none,op:=.insert 114 m kx vx,type:=ty,pos:=pos,after:=after,guard:=none }∧a.eval kx=sk (litK i).1 (litK i).2∧a.eval vx=.int .i64 (begV (litK i).1 (litK i).2))
  (hend:∀ es,BegOk es→wpAny Tryz.prog .any ops Q f (setAll L litI) a (W.alloc (.map es 12))) :
  wpAny Tryz.prog .any ops Q (12+f) L a (W.alloc (.map #[] 0)):=by
 refine lay_any (P:=Tryz.prog) (md:=.any) (Q:=Q) (a:=a) (L:=L) (I:=litI) (z:=z) (f:=f) hB hZ hI (fun d w=>∃ es,w=W.alloc (.map es d.length)∧BegPart d es) ?_ ?_ 12 [] litI _ rfl rfl (fun j hj => .inr hj) (fun j hj=>by cases hj) (fun j hj=>⟨hj,by simp⟩) (by decide) ⟨#[],rfl,by simp [BegPart]⟩
 ·rintro d i w hi hid hd ⟨es,rfl,hp⟩
  obtain⟨kx,vx,ty,pos,after,ho,hk,hv⟩:=hops i hi
  refine⟨_,by simpa using ho,rfl,fun K hK=>?_⟩
  have h123:=litK_ok i hi
  have hr:=run_lay W es d.length (sk (litK i).1 (litK i).2) (.int .i64 (begV (litK i).1 (litK i).2)) (sk_key _ _ h123.1 h123.2.1 h123.2.2)
   (fun e he=>by
    obtain⟨j,hj,hkj,_⟩:=hp.1 e he
    have g123:=litK_ok j (hd j hj)
    rw [hkj];exact sk_key _ _ g123.1 g123.2.1 g123.2.2)
   (fun e he heq=>by
    obtain⟨j,hj,hkj,_⟩:=hp.1 e he
    rw [hkj]at heq
    obtain⟨e1,e2⟩:=sk_inj heq
    exact hid (litK_inj j (hd j hj) i hi e1 e2 ▸ hj))
  unfold Oper.wp execOp
  simp [ham,hk,hv,hr,Oper.upon,Act.put]
  refine hK _ ⟨_,rfl,fun e he=>?_,fun j hj=>?_⟩
  ·rw [Array.toList_push,List.mem_append,List.mem_singleton]at he
   rcases he with he|rfl
   ·obtain⟨j,hj,h⟩:=hp.1 e he
    exact⟨j,List.mem_cons_of_mem _ hj,h⟩
   ·exact⟨i,List.mem_cons_self,rfl,rfl⟩
  ·rcases List.mem_cons.1 hj with rfl|hj
   ·exact⟨{ key:=sk (litK j).1 (litK j).2,val:=.int .i64 (begV (litK j).1 (litK j).2),born:=d.length },by simp,rfl⟩
   ·obtain⟨e,he,h⟩:=hp.2 j hj
    exact⟨e,by simp [he],h⟩
 ·rintro d w hlen hd ⟨es,rfl,hp⟩
  rw [hlen]
  exact hend es (beg_part hp hd)
end Tr
namespace Fr
theorem tyFt:TyIs Tryz.prog 110 [.int .i64 0] 8:=tyIs_of (by kernel_rfl)
theorem tyEr:TyIs Tryz.prog 31 [.int .i64 0] 8:=tyIs_of (by kernel_rfl)
end Fr
theorem closure_idle(p4 p5 p6:Addr)(w:World) :
  CallsD Tryz.prog 57 #[.pointer (some p4),.pointer (some p5),.pointer (some p6)] .returning w fun e u' w'=>e=.returned (.tuple #[])∧u'=.returning∧w'=w:=by
 refine callsD_of_wpS Tryz.func57 rfl fun c₀ cs hu=>?_
 apply wpS_seq
 apply wpS_region
 simp [wpOpsS,go_sem,recoverD,hu,Tryz.ntmps57,Exit.thenS,Array.replicate_succ,Array.replicate_zero,List.push_toArray,List.append_toArray,List.nil_append,List.cons_append]
 refine wpS_of_wp ?_
 go_wp2
 cases c₀
 simp_all [bodyPostS,results,Tryz.results57]
theorem closure_fault{w W:World}{g:Option Nat}{Kp:World→Prop}(b4 b5 b6:Nat)(v0 v1 v2 v3 v4 v5 v6 v7 x5 x6:Value)(h:Fr.Fm w g Kp W [.blk b6 [x6],.blk b5 [x5],.blk b4 [v0,v1,v2,v3,v4,v5,v6,v7]] [])(q:Int)(older:List PanicEntry) :
  CallsD Tryz.prog 57 #[.pointer (some ⟨b4,0,none⟩),.pointer (some ⟨b5,0,none⟩),.pointer (some ⟨b6,0,none⟩)] (.panicking ({ v:=.iface 110 (.agg #[.int .i64 q]),recovered:=false }::older)) W fun e u' w' =>
   e=.returned (.tuple #[])∧u'=.panicking ({ v:=.iface 110 (.agg #[.int .i64 q]),recovered:=true }::older)∧Fr.Fm w g Kp w' [.blk b6 [.int .i64 100],.blk b5 [.int .i64 q],.blk b4 Fr.zM] []:=by
 have hta:∀(q:Int) (t:TypeId) (W:World),(Instr.typeAssert (.iface 110 (.agg #[.int .i64 q])) t 110 true).run Tryz.prog W=.ok (.tuple #[.agg #[.int .i64 q],.bool true]) W:=fun _ _ _=>by kernel_rfl
 have HF:=hid h
 clear h
 refine callsD_of_wpS Tryz.func57 rfl fun c₀ cs hu=>?_
 apply wpS_seq
 apply wpS_region
 simp [wpOpsS,go_sem,recoverD,hu,Tryz.ntmps57,Exit.thenS,Array.replicate_succ,Array.replicate_zero,List.push_toArray,List.append_toArray,List.nil_append,List.cons_append]
 refine wpS_of_wp ?_
 go_wp2_with (first
  | ((with_reducible refine Fr.is_alloc (dst:=some 4) ?_);(first|(refine Fr.wl_alloc HF.out Fr.tyFt ?_));intro b7 W1 HF1;replace HF:=hid HF1;clear HF1)
  | (first|((with_reducible refine is_store (T:=110) ?_);(first|(refine Fr.wl_store 0 HF.out Fr.tyFt rfl rfl rfl rfl rfl (z4 rfl) oT ?_));intro W1 HF1;simp only [setL,z0,z1]at HF1;replace HF:=hid HF1;clear HF1)))
 replace HF:=hid HF.out.drew
 refine wp_region_G (UpTo 5 (fun X=>X.cell? ⟨b7,0,none⟩=some (.int .i64 q))) 6 (by kernel_rfl) (by kernel_rfl) (fun _=>(HF.out.cellAt 0 rfl 0 rfl)) (fun _ hS=>?_)
 generalize World.drew _=W1 at HF hS ⊢
 refine Fr.tkM (n:=6) (is:=[0,1]) (k:=2) rfl (by kernel_rfl) hS ?_
 repeat(refine Fr.wT (v:=?_) rfl (by rfl) (fun X xb=>?_) ?_;rotate_left 1;(focus(go_simp;try with_reducible rfl));try simp only [Act.put,zA,z0,z1])
 refine Fr.wE fun hS=>?_
 refine Fr.tkB (n:=6) (is:=[2]) [[2]] (k:=1) rfl (by kernel_rfl) hS ?_
 repeat(refine Fr.wT (v:=?_) rfl (by rfl) (fun X xb=>?_) ?_;rotate_left 1;(focus(go_simp;try with_reducible rfl));try simp only [Act.put,zA,z0,z1])
 refine Fr.wE fun hS=>?_
 refine rd1 (i:=3) (by kernel_rfl) (.cons rfl (fun K hK=>?_) .nil)
 refine(if_pos (by rfl)).mpr ?_
 (first|(refine Fr.ow_store 3 HF.out tyM rfl rfl rfl rfl rfl rfl (z4 rfl) oT ?_))
 intro W1 HF1
 simp only [setL,z0,z1]at HF1;replace HF:=hid HF1;clear HF1
 refine hK.out _ _ (fun _=>(HF.out.cellAt 0 rfl 0 rfl)) fun hS=>?_;clear hK K
 try simp only [Act.put,zA,z0,z1]
 refine rd1 (i:=4) (by kernel_rfl) (.cons rfl (fun K hK=>?_) .nil)
 refine(if_pos (by rfl)).mpr ?_
 (first|((refine Fr.ow_store1 2 HF.out Fr.tyInt rfl rfl rfl rfl rfl rfl ?_ ?_);(focus(rfl))))
 intro W1 HF1
 simp only [setL,z0,z1]at HF1;replace HF:=hid HF1;clear HF1
 refine hK.out _ _ (fun _=>(HF.out.cellAt 0 rfl 0 rfl)) fun hS=>?_;clear hK K
 try simp only [Act.put,zA,z0,z1]
 refine rd1 (i:=5) (by kernel_rfl) (.cons rfl (fun K hK=>?_) .nil)
 refine(if_pos (by rfl)).mpr ?_
 (first|((refine Fr.ow_store1 1 HF.out Fr.tyEr rfl rfl rfl rfl rfl rfl ?_ ?_);(focus(rfl))))
 intro W1 HF1
 simp only [setL,z0,z1]at HF1;replace HF:=hid HF1;clear HF1
 refine hK.out _ _ (fun h=>absurd h (by simp [Fr.setAll])) fun hS=>?_;clear hK K
 try simp only [Act.put,zA,z0,z1]
 refine wpAnyG_done (by kernel_rfl) ?_ _
 clear hS
 replace HF:=hid (HF.out.pick [1,2,3] [] (by decide) (by simp) (by simp))
 refine⟨rfl,_,rfl,.tuple #[],?_,rfl,rfl,HF.out⟩
 simp [results,Tryz.results57]
namespace Fr
open Da Tr
theorem wpAny_takeT{P:Program}{ops:Array Oper}{Q:Exit→Act→World→Prop}{md:Region.Mode}{i:Nat}{oi:Oper}{v:Value}{fuel:Nat}{listed:Array Bool}{a:Act}{w:World}(hi:ops.toList[i]?=some oi)
  (hs:Region.noSelect ops=true) (hf:Region.free md ops listed i=true) (hr:(Region.ready md ops listed).contains i=true)
  (hQ:∀ c a w,Q (.panic c) (a.put oi.dst v) w→Q (.panic c) a w) (hy:Yields P ops oi v a)
  (h:wpAny P md ops Q fuel (listed.setIfInBounds i true) (a.put oi.dst v) w):wpAny P md ops Q (fuel+1) listed a w:=
 wpAny_take (by simpa using hi) hs hf hr hQ hy h
theorem wpAny_one{P:Program}{ops:Array Oper}{Q:Exit→Act→World→Prop}{md:Region.Mode}{fuel:Nat}{listed:Array Bool}{a:Act}{w:World}(i:Nat){o:Oper}(ho:ops.toList[i]?=some o)(hr:Region.ready md ops listed=[i])
  (hg:o.guard=none) (h:∀ K:Act→World→Prop,(∀ a' w',wpAny P md ops Q fuel (listed.setIfInBounds i true) a' w'→K a' w')→Oper.wp P o a w K Q):wpAny P md ops Q (fuel+1) listed a w:=
 wpAny_all hr (by simp) fun j hj=>by
  obtain rfl:=List.mem_singleton.1 hj
  refine wpOp_step (by simpa using ho) (fun K hK=>?_)
  rw [if_pos (by simp [Region.wanted,hg])]
  exact h K hK
theorem map_op{P:Program}{Q:Exit→Act→World→Prop}{K:Act→World→Prop}{a:Act}{W:World}{o:Oper}{t:TypeId}(ho:o.op=.makeMap t none)(h:K (a.put o.dst (.map (some W.heap.size))) (W.alloc (.map #[] 0))):o.wp P a W K Q:=by
 have hr:=run_makeMap (P:=P) t W
 unfold Oper.wp execOp
 simp [ho,hr,Oper.upon]
 exact h
theorem box_op{P:Program}{Q:Exit→Act→World→Prop}{K:Act→World→Prop}{a:Act}{W:World}{o:Oper}{T:TypeId}{x:Operand}(ho:o.op=.box T x){cs:Array Value}(hx:(a.eval x).cells=cs)
  (h:K (a.put o.dst (.pointer (some ⟨W.heap.size,0,none⟩))) (W.alloc (.cells cs T))):o.wp P a W K Q:=by
 unfold Oper.wp execOp
 simp only [ho,Sem.run_bind,Instr.box,newVar,newRow]
 simp [hx]
 exact h
theorem Fm.callOwn{w W W':World}{Kp:World→Prop}{R:List RI}{bp:Nat}(h:Fm w none Kp W R [])(hr:W.grownBy W' (some bp))(hbp:w.heap.size≤bp)(hR:∀ r∈R,∃ b cs,r=.blk b cs∧b ≠ bp):Fm w none Kp W' R []:=by
 have hb:∀ k,k<W.heap.size→k ≠ bp→W'.heap[k]?=W.heap[k]?:=fun k hk hn=>hr.block k hk (fun e=>hn (by simpa using e))
 refine⟨⟨hr.os.trans h.gr.os,hr.tape.trans h.gr.tape,hr.output.trans h.gr.output,Nat.le_trans h.gr.size hr.size,fun k hk hn=>(hb k (Nat.lt_of_lt_of_le hk h.gr.size) (by omega)).trans (h.gr.block k hk hn)⟩,h.hg,h.st,h.keepK hr.size (fun b hlt=>hb b (Nat.lt_of_lt_of_le hlt h.gr.size) (by omega)),h.ap,fun i r hi=>?_,fun i v d hi=>by simp at hi⟩
 obtain⟨b,cs,rfl,hne⟩:=hR r (List.mem_of_getElem? hi)
 have hlt:=(h.ri i _ hi).2.lt
 obtain⟨h1,t,h2⟩:=h.ri i _ hi
 exact⟨h1,t,by rw [hb b hlt hne];exact h2⟩
theorem VMo.open{lo:Nat}{w:World}{v:Value}{t:Mo}(h:VMo lo w v t):∃(nm:ByteArray) (v2 v3 v4 v5 v6 v7:Value) (d2 d3 d4 d5 d6 d7:D) (p:Int),v=.agg #[.string nm,v2,v3,v4,v5,v6,v7,.int .i64 p]∧moD t=[.str nm.data.toList,d2,d3,d4,d5,d6,d7,.int p] ∧
  Is w (fun b=>lo≤b) v2 d2∧Is w (fun b=>lo≤b) v3 d3∧Is w (fun b=>lo≤b) v4 d4∧Is w (fun b=>lo≤b) v5 d5∧Is w (fun b=>lo≤b) v6 d6∧Is w (fun b=>lo≤b) v7 d7:=by
 obtain⟨cs,rfl,h⟩:=h
 unfold moD at h
 obtain⟨c0,_,rfl,h0,h⟩:=row_inv h
 obtain⟨c2,_,rfl,h2,h⟩:=row_inv h
 obtain⟨c3,_,rfl,h3,h⟩:=row_inv h
 obtain⟨c4,_,rfl,h4,h⟩:=row_inv h
 obtain⟨c5,_,rfl,h5,h⟩:=row_inv h
 obtain⟨c6,_,rfl,h6,h⟩:=row_inv h
 obtain⟨c7,_,rfl,h7,h⟩:=row_inv h
 obtain⟨c9,_,rfl,h9,h⟩:=row_inv h
 obtain rfl:=row_inv0 h
 obtain rfl:=is_str h0
 obtain rfl:=is_int h9
 exact⟨_,c2,c3,c4,c5,c6,c7,_,_,_,_,_,_,_,rfl,by unfold moD;rfl,h2,h3,h4,h5,h6,h7⟩
theorem fm_results3{P:Program}{w W:World}{g:Option Nat}{Kp:World→Prop}{R:List RI}{Ds:List (Value × D)}{fn:Func}{p p2 p3:Tmp}{T T2 T3:TypeId}(h:Fm w g Kp W R Ds)(hf:fn.results=#[.cell p T,.cell p2 T2,.cell p3 T3]){tmps:Array Value}{b b2 b3:Nat}{cs:List Value}{x2 x3:Value}
  (hp:tmps.getD p undef=.pointer (some ⟨b,0,none⟩)) (hp2:tmps.getD p2 undef=.pointer (some ⟨b2,0,none⟩)) (hp3:tmps.getD p3 undef=.pointer (some ⟨b3,0,none⟩))
  {k k2 k3:Nat} (hk:R[k]?=some (.blk b cs)) (hk2:R[k2]?=some (.blk b2 [x2])) (hk3:R[k3]?=some (.blk b3 [x3])) {d d2 d3:TypeDesc} (hu:P.underlying T=some d) (hd:d.isRow=true) {z:List Value} {bytes:Nat} (hT:TyIs P T z bytes) (hz:cs.length=z.length)
  (hu2:P.underlying T2=some d2) (hd2:d2.isRow=false) (hu3:P.underlying T3=some d3) (hd3:d3.isRow=false) :
  (results fn tmps).run P W=.ok (.tuple #[.agg cs.toArray,x2,x3]) W:=by
 obtain⟨i,v,hi,_,_,hs,_⟩:=hT.info
 obtain⟨t,hb⟩:=h.at k hk
 have hp':tmps[p]?.getD undef=.pointer (some ⟨b,0,none⟩):=by simpa using hp
 have hp2':tmps[p2]?.getD undef=.pointer (some ⟨b2,0,none⟩):=by simpa using hp2
 have hp3':tmps[p3]?.getD undef=.pointer (some ⟨b3,0,none⟩):=by simpa using hp3
 have h1:=run_loadVar_row (P:=P) W b t T cs.toArray (0,0) d hb hu (by cases d <;> simp_all) (by rw [hi];simp [hs,hz])
 have h2:=run_loadVar_cell (P:=P) (W:=W) b2 0 T2 x2 d2 (h.cellAt k2 hk2 0 rfl) hu2 hd2
 have h3:=run_loadVar_cell (P:=P) (W:=W) b3 0 T3 x3 d3 (h.cellAt k3 hk3 0 rfl) hu3 hd3
 simp [results,hf,hp',hp2',hp3',asAddr,h1,h2,h3]
theorem size_allocT(W:World)(o:Obj):(W.alloc o).heap.size=W.heap.size+1:=by
 show(W.heap.push o).size=_
 exact Array.size_push ..
theorem ow_storeG{P:Program}{Q:Exit→Act→World→Prop}{K:Act→World→Prop}{a:Act}{W w:World}{g:Option Nat}{Kp:World→Prop}{R:List RI}{Ds:List (Value × D)}{o:Oper}(k:Nat)(h:Fm w g Kp W R Ds){T:TypeId}{z:List Value}{bytes:Nat}(hT:TyIs P T z bytes){x y:Operand}(ho:o.op=.store T x y){b off:Nat}{cs vs:List Value}(hx:a.eval x=.pointer (some ⟨b,off,none⟩))(hk:R[k]?=some (.blk b cs))
  {yv:Value} (hyv:evalQ a y=some yv) (hy':yv.cells=vs.toArray) (hz:vs.length=z.length) (hl:off+vs.length≤cs.length) (h1:∀ v∈vs,v.oneCell'=true)
  (hK:∀ W':World,W.grownBy W' (some b)→Fm w g Kp W' (R.set k (.blk b (setL cs off vs))) Ds→K (a.put o.dst undef) W'):o.wp P a W K Q:=by
 have hy:(a.eval y).cells=vs.toArray:=by rw [evalQ_eval hyv];exact hy'
 obtain⟨i,v,hi,_,_,hs,_⟩:=hT.info
 have hr:=run_storeVar_all (P:=P) (W:=W) b off T (a.eval y) vs hy (blk_there (h.at k hk) off vs.length hl) (by rw [hi,hz];simp [hs]) h1
 unfold Oper.wp execOp
 simp only [ho,hx,Instr.storeAt,Instr.sureAddr,Sem.run_bind,Sem.run_pure,Result.andThen_ok,hr]
 exact hK _ (setCells_grown b vs off W) (h.set hk off vs)
theorem wl_storeG{P:Program}{ops:Array Oper}{Q:Exit→Act→World→Prop}{a:Act}{W w:World}{g:Option Nat}{Kp:World→Prop}{R:List RI}{Ds:List (Value × D)}{rest:List Oper}{dst:Option Tmp}{ty:TypeId}{pos:String}{after:Array Edge}(k:Nat)(h:Fm w g Kp W R Ds){T:TypeId}{z:List Value}{bytes:Nat}(hT:TyIs P T z bytes){x y:Operand}{b off:Nat}{cs vs:List Value}(hx:a.eval x=.pointer (some ⟨b,off,none⟩))(hk:R[k]?=some (.blk b cs))
  {yv:Value} (hyv:evalQ a y=some yv) (hy:yv.cells=vs.toArray) (hz:vs.length=z.length) (hl:off+vs.length≤cs.length) (h1:∀ v∈vs,v.oneCell'=true)
  (hK:∀ W':World,W.grownBy W' (some b)→Fm w g Kp W' (R.set k (.blk b (setL cs off vs))) Ds→wpList P ops Q rest (a.put dst undef) W'):wpList P ops Q ({ dst:=dst,op:=.store T x y,type:=ty,pos:=pos,after:=after,guard:=none }::rest) a W:=
 wpList_plain rfl fun K hK'=>ow_storeG k h hT rfl hx hk hyv hy hz hl h1 fun W' hg h'=>hK' _ _ (hK W' hg h')
theorem PS.past{W W':World}{B bp b:Nat}{en:Int}{l:List Tok}(h:PS W B bp en l)(hb:Blk W b zM.toArray)(hne:b ≠ bp)(hgr:W.grownBy W' (some b)):PS W' B bp en l:=by
 obtain⟨tv,ts,bm,k,h,rfl⟩:=h
 have hk:∀ j,j<W.heap.size→j ≠ b→W'.heap[j]?=W.heap[j]?:=fun j hj hn=>hgr.block j hj (fun e=>hn (by simpa using e))
 refine⟨tv,ts,bm,k,⟨?_,⟨h.rd.1,?_⟩,h.tb,?_,h.hm,h.hb,Nat.le_trans h.hB hgr.size,h.hk,h.hl,h.gt⟩,rfl⟩
 ·have hlt:=h.pb.lt
  obtain⟨t,hp⟩:=h.pb
  exact⟨t,by rw [hk bp hlt (Ne.symm hne)];exact hp⟩
 ·rcases h.rd.2 with h0|⟨b',off,cap,h1,h2,h3,h4,h5⟩
  ·exact .inl h0
  ·by_cases hbb:b'=b
   ·subst hbb
    by_cases h0:0<ts.length
    ·exfalso
     have hc:=h5 (0 * 4+1) _ (tkCells_at ts 0 (ts[0]'h0) 1 _ (List.getElem?_eq_getElem h0) rfl)
     rw [hb.cell]at hc
     rcases off with _|_|_|_|_|_|_|off
     all_goals simp [zM]at hc
    ·have e:ts.length=0:=by omega
     exact .inl ⟨e,some ⟨b',off,none⟩,cap,by rw [h1,e],h3⟩
   ·exact .inr ⟨b',off,cap,h1,h2,h3,Nat.lt_of_lt_of_le h4 hgr.size,fun j u hu=>by rw [World.cell?_of_block (w:=W) (hk b' h4 hbb)];exact h5 j u hu⟩
 ·obtain⟨es,hes,ho⟩:=h.mp
  have hlt:bm<W.heap.size:=(Array.getElem?_eq_some_iff.1 hes).1
  refine⟨es,?_,ho⟩
  rw [hk bm hlt (fun e=>by subst e;obtain⟨t,hb⟩:=hb;rw [hb]at hes;cases hes)]
  exact hes
theorem ps_make{w Wd:World}{tv:Value}{ts:List Tok}{T:TypeId}(hgr:w.grownBy Wd none)(hrd:Reads w tv ts.length 4 (tkCells ts))(hl:ts.length≤6000)(gt:∀ t∈ts,0≤t.1∧t.1≤6∧t.2.1.length≤100000){es:Array MapEntry}(hes:BegOk es)(en:Int) :
  PS ((Wd.alloc (.map es 12)).alloc (.cells #[tv,.int .i64 0,.int .i64 en,.map (some Wd.heap.size)] T)) ((Wd.alloc (.map es 12)).alloc (.cells #[tv,.int .i64 0,.int .i64 en,.map (some Wd.heap.size)] T)).heap.size (Wd.heap.size+1) en ts:=by
 have hs1:(Wd.alloc (.map es 12)).heap.size=Wd.heap.size+1:=size_allocT _ _
 have hb2:Below Wd.heap.size Wd ((Wd.alloc (.map es 12)).alloc (.cells #[tv,.int .i64 0,.int .i64 en,.map (some Wd.heap.size)] T)):=((Below.refl _ _).alloc (Nat.le_refl _) _).alloc (by rw [hs1];omega) _
 have hs2:((Wd.alloc (.map es 12)).alloc (.cells #[tv,.int .i64 0,.int .i64 en,.map (some Wd.heap.size)] T)).heap.size=Wd.heap.size+2:=by rw [size_allocT,size_allocT]
 refine⟨tv,ts,Wd.heap.size,0,⟨hs1 ▸ blk_new _ _ _,⟨hrd.1,?_⟩,?_,⟨es,?_,hes⟩,⟨by omega,by omega⟩,by omega,Nat.le_refl _,Nat.zero_le _,hl,gt⟩,rfl⟩
 ·rcases hrd.2 with h|⟨b,off,cap,h1,h2,h3,h4,h5⟩
  ·exact .inl h
  ·exact .inr ⟨b,off,cap,h1,h2,h3,Nat.lt_of_lt_of_le h4 (Nat.le_trans hgr.size hb2.size),fun j u hu=>by
    rw [World.cell?_of_block (w:=w) ((hb2.block b (Nat.lt_of_lt_of_le h4 hgr.size)).trans (hgr.block b h4 (by simp)))];exact h5 j u hu⟩
 ·intro b o n c e hn
  have hg:=hgr.size
  rcases hrd.2 with⟨h0,p,c',h1,_⟩|⟨b',off,cap,h1,h2,h3,h4,h5⟩
  ·rw [e]at h1;simp at h1;omega
  ·rw [e]at h1;simp at h1;obtain⟨⟨rfl,_⟩,_⟩:=h1;omega
 ·show((Wd.alloc (.map es 12)).heap.push _)[Wd.heap.size]?=_
  rw [Array.getElem?_push_lt (by rw [hs1];omega)]
  have:=last_mapT Wd es 12
  rw [Array.getElem?_eq_getElem (by rw [hs1];omega)]at this
  exact this
def ParsedIs(w:World)(x:Except Int Mo)(e:Ending)(w':World):Prop:=
 w.grownBy w' none∧match x with
  | .ok m=>∃ v,e=.returned (.tuple #[v,.int .i64 0,.int .i64 0])∧VMo w.heap.size w' v m
  | .error q=>e=.returned (.tuple #[.agg zM.toArray,.int .i64 q,.int .i64 100])
end Fr
theorem parsed_any:∀(w:World) (tv:Value) (ts:List Tr.Tok) (en:Int),Reads w tv ts.length 4 (Tr.tkCells ts)→ts.length≤6000→(∀ t∈ts,0≤t.1∧t.1≤6∧t.2.1.length≤100000) →
  Calls Tryz.prog 18 #[tv,.int .i64 en] w (Fr.ParsedIs w (Tr.parsedP en ts)):=by
 intro w tv ts en hrd hl gt
 obtain⟨tp,tc,rfl⟩:∃ p c,tv=.slice p ts.length c:=by
  rcases hrd.2 with⟨h0,p,c,h1,_⟩|⟨b,off,cap,h1,_⟩
  ·exact⟨p,c,by rw [h1,h0]⟩
  ·exact⟨_,_,h1⟩
 obtain⟨X,hX⟩:∃ X,X=Tr.parsedP en ts:=⟨_,rfl⟩
 rw [← hX]
 have HX:=hid hX
 have HRD:=hid hrd
 have HLT:=hid hl
 have HGT:=hid gt
 have HF:=hid (Fr.fm_start w none (fun _=>True) (fun k e=>by simp at e) (fun _ _ _ _ h=>h) trivial)
 clear hX hrd hl gt
 have HM:=hid (module_any en (ts.length+1) _ (read_all en _) (qual_any en) (expr_fm en _ _ (read_all en _)) (stats_any en _ _ (read_all en _) (stat_fm en _ _ (read_all en _))))
 have hmf:∀(fn:Fn) (first cap:Array Value) (w:World),(Instr.makeFunc fn first cap).run Tryz.prog w=.ok (.func fn first cap) w:=fun _ _ _ _=>rfl
 go_enter_defers Tryz.func18,Tryz.ntmps18
 go_wp2_with (first
  | ((with_reducible refine Fr.is_alloc (dst:=some 4) ?_);(first|(refine Fr.wl_alloc HF.out tyM ?_));intro b4 W1 HF1;replace HF:=hid HF1;clear HF1)
  | ((with_reducible refine Fr.is_alloc (dst:=some 5) ?_);(first|(refine Fr.wl_alloc HF.out Fr.tyInt ?_));intro b5 W1 HF1;replace HF:=hid HF1;clear HF1)
  | ((with_reducible refine Fr.is_alloc (dst:=some 6) ?_);(first|(refine Fr.wl_alloc HF.out Fr.tyEr ?_));intro b6 W1 HF1;replace HF:=hid HF1;clear HF1))
 replace HF:=hid HF.out.drew
 refine wp_region_noPanic ?_
 refine wp_region_any (by kernel_rfl) (show wpAny _ _ _ _ _ _ _ (World.drew W1)from ?_)
 generalize World.drew W1=Wd at HF ⊢
 refine Fr.wpAny_takeT (i:=0) (v:=?_) rfl (by kernel_rfl) (by kernel_rfl) (by kernel_rfl) (fun _ _ _ h=>h) (Or.inl ⟨by rfl,?_⟩) ?_
 rotate_left 1
 ·intro X
  go_simp
  try with_reducible rfl
 try simp only [Act.put,zA,z0,z1]
 refine Fr.wpAny_takeT (i:=1) (v:=?_) rfl (by kernel_rfl) (by kernel_rfl) (by kernel_rfl) (fun _ _ _ h=>h) (Or.inl ⟨by rfl,?_⟩) ?_
 rotate_left 1
 ·intro X
  go_simp
  try with_reducible rfl
 try simp only [Act.put,zA,z0,z1]
 refine Fr.wpAny_takeT (i:=3) (v:=?_) rfl (by kernel_rfl) (by kernel_rfl) (by kernel_rfl) (fun _ _ _ h=>h) (Or.inl ⟨by rfl,?_⟩) ?_
 rotate_left 1
 ·intro X
  go_simp
  try with_reducible rfl
 try simp only [Act.put,zA,z0,z1]
 refine Fr.wpAny_takeT (i:=5) (v:=?_) rfl (by kernel_rfl) (by kernel_rfl) (by kernel_rfl) (fun _ _ _ h=>h) (Or.inl ⟨by rfl,?_⟩) ?_
 rotate_left 1
 ·intro X
  go_simp
  try with_reducible rfl
 try simp only [Act.put,zA,z0,z1]
 refine Fr.wpAny_takeT (i:=7) (v:=?_) rfl (by kernel_rfl) (by kernel_rfl) (by kernel_rfl) (fun _ _ _ h=>h) (Or.inl ⟨by rfl,?_⟩) ?_
 rotate_left 1
 ·intro X
  go_simp
  try with_reducible rfl
 try simp only [Act.put,zA,z0,z1]
 refine Fr.wpAny_takeT (i:=9) (v:=?_) rfl (by kernel_rfl) (by kernel_rfl) (by kernel_rfl) (fun _ _ _ h=>h) (Or.inl ⟨by rfl,?_⟩) ?_
 rotate_left 1
 ·intro X
  go_simp
  try with_reducible rfl
 try simp only [Act.put,zA,z0,z1]
 refine Fr.wpAny_takeT (i:=11) (v:=?_) rfl (by kernel_rfl) (by kernel_rfl) (by kernel_rfl) (fun _ _ _ h=>h) (Or.inl ⟨by rfl,?_⟩) ?_
 rotate_left 1
 ·intro X
  go_simp
  try with_reducible rfl
 try simp only [Act.put,zA,z0,z1]
 refine Fr.wpAny_takeT (i:=13) (v:=?_) rfl (by kernel_rfl) (by kernel_rfl) (by kernel_rfl) (fun _ _ _ h=>h) (Or.inl ⟨by rfl,?_⟩) ?_
 rotate_left 1
 ·intro X
  go_simp
  try with_reducible rfl
 try simp only [Act.put,zA,z0,z1]
 refine Fr.wpAny_takeT (i:=15) (v:=?_) rfl (by kernel_rfl) (by kernel_rfl) (by kernel_rfl) (fun _ _ _ h=>h) (Or.inl ⟨by rfl,?_⟩) ?_
 rotate_left 1
 ·intro X
  go_simp
  try with_reducible rfl
 try simp only [Act.put,zA,z0,z1]
 refine Fr.wpAny_takeT (i:=17) (v:=?_) rfl (by kernel_rfl) (by kernel_rfl) (by kernel_rfl) (fun _ _ _ h=>h) (Or.inl ⟨by rfl,?_⟩) ?_
 rotate_left 1
 ·intro X
  go_simp
  try with_reducible rfl
 try simp only [Act.put,zA,z0,z1]
 refine Fr.wpAny_takeT (i:=19) (v:=?_) rfl (by kernel_rfl) (by kernel_rfl) (by kernel_rfl) (fun _ _ _ h=>h) (Or.inl ⟨by rfl,?_⟩) ?_
 rotate_left 1
 ·intro X
  go_simp
  try with_reducible rfl
 try simp only [Act.put,zA,z0,z1]
 refine Fr.wpAny_takeT (i:=21) (v:=?_) rfl (by kernel_rfl) (by kernel_rfl) (by kernel_rfl) (fun _ _ _ h=>h) (Or.inl ⟨by rfl,?_⟩) ?_
 rotate_left 1
 ·intro X
  go_simp
  try with_reducible rfl
 try simp only [Act.put,zA,z0,z1]
 refine Fr.wpAny_takeT (i:=23) (v:=?_) rfl (by kernel_rfl) (by kernel_rfl) (by kernel_rfl) (fun _ _ _ h=>h) (Or.inl ⟨by rfl,?_⟩) ?_
 rotate_left 1
 ·intro X
  go_simp
  try with_reducible rfl
 try simp only [Act.put,zA,z0,z1]
 refine Fr.wpAny_takeT (i:=25) (v:=?_) rfl (by kernel_rfl) (by kernel_rfl) (by kernel_rfl) (fun _ _ _ h=>h) (Or.inl ⟨by rfl,?_⟩) ?_
 rotate_left 1
 ·intro X
  go_simp
  try with_reducible rfl
 try simp only [Act.put,zA,z0,z1]
 refine Fr.wpAny_one 2 rfl (by kernel_rfl) rfl (fun K hK=>Fr.map_op rfl (hK _ _ ?_))
 clear K hK
 try simp only [Act.put,zA,z0,z1]
 refine Tr.beg_lit (f:=4) (z:=27) (m:=.tmp 11) (W:=Wd) rfl (by kernel_rfl) (by kernel_rfl) (by kernel_rfl) ?_ ?_
 ·intro i hi
  simp only [Tr.litI,List.mem_cons,List.not_mem_nil,or_false]at hi
  rcases hi with rfl|rfl|rfl|rfl|rfl|rfl|rfl|rfl|rfl|rfl|rfl|rfl <;> exact⟨_,_,_,_,_,rfl,rfl,rfl⟩
 intro es hes
 refine Fr.wpAny_takeT (i:=27) (v:=?_) rfl (by kernel_rfl) (by kernel_rfl) (by kernel_rfl) (fun _ _ _ h=>h) (Or.inl ⟨by rfl,?_⟩) ?_
 rotate_left 1
 ·intro X
  go_simp
  try with_reducible rfl
 try simp only [Act.put,zA,z0,z1]
 refine Fr.wpAny_takeT (i:=28) (v:=?_) rfl (by kernel_rfl) (by kernel_rfl) (by kernel_rfl) (fun _ _ _ h=>h) (Or.inl ⟨by rfl,?_⟩) ?_
 rotate_left 1
 ·intro X
  go_simp
  try with_reducible rfl
 try simp only [Act.put,zA,z0,z1]
 refine Fr.wpAny_one 29 rfl (by kernel_rfl) rfl (fun K hK=>Fr.box_op (cs:=#[.slice tp ts.length tc,.int .i64 0,.int .i64 en,.map (some Wd.heap.size)]) rfl (by rfl) (hK _ _ ?_))
 clear K hK
 try simp only [Act.put,zA,z0,z1]
 refine Fr.wpAny_takeT (i:=30) (v:=?_) rfl (by kernel_rfl) (by kernel_rfl) (by kernel_rfl) (fun _ _ _ h=>h) (Or.inl ⟨by rfl,?_⟩) ?_
 rotate_left 1
 ·intro X
  go_simp
  try with_reducible rfl
 try simp only [Act.put,zA,z0,z1]
 refine wpAny_done (by kernel_rfl) (NoPanic.normal ?_) _
 have HPS:=hid (Fr.ps_make (T:=116) HF.out.gr HRD.out HLT.out HGT.out hes en)
 have hbd:Below Wd.heap.size Wd ((Wd.alloc (.map es 12)).alloc (.cells #[.slice tp ts.length tc,.int .i64 0,.int .i64 en,.map (some Wd.heap.size)] 116)):=((Below.refl _ _).alloc (Nat.le_refl _) _).alloc (by rw [Fr.size_allocT];omega) _
 have HN4:=hid (show b4 ≠ Wd.heap.size+1 from fun e=>by have:=HF.out.ltAt 2 rfl;omega)
 have HN5:=hid (show b5 ≠ Wd.heap.size+1 from fun e=>by have:=HF.out.ltAt 1 rfl;omega)
 have HN6:=hid (show b6 ≠ Wd.heap.size+1 from fun e=>by have:=HF.out.ltAt 0 rfl;omega)
 have HS:=hid (show w.heap.size≤Wd.heap.size+1 from Nat.le_succ_of_le HF.out.size)
 replace HF:=hid (HF.out.below hbd)
 clear hbd hes
 generalize (Wd.alloc (.map es 12)).alloc (.cells #[.slice tp ts.length tc,.int .i64 0,.int .i64 en,.map (some Wd.heap.size)] 116)=W2 at HF HPS ⊢
 generalize Wd.heap.size+1=bp at HF HPS HN4 HN5 HN6 HS ⊢
 have HRS:=hid (show ∀ r∈[Fr.RI.blk b6 [Value.int .i64 0],.blk b5 [.int .i64 0],.blk b4 Fr.zM],∃ b cs,r=.blk b cs∧b ≠ bp from fun r hr=>by
  simp only [List.mem_cons,List.not_mem_nil,or_false]at hr
  rcases hr with rfl|rfl|rfl
  ·exact⟨_,_,rfl,HN6.out⟩
  ·exact⟨_,_,rfl,HN5.out⟩
  ·exact⟨_,_,rfl,HN4.out⟩)
 go_wp2_with (first
  | (go_at_call 58;(with_reducible refine(HM.out _ _ bp _ (Nat.le_succ _) HPS.out).mono ?_);rintro e W1 ⟨hr,⟨mo,l1,v,hx,hps1,rfl,hV⟩|⟨q,hx,rfl⟩⟩;(focus(obtain⟨nm,v2,v3,v4,v5,v6,v7,d2,d3,d4,d5,d6,d7,p0,rfl,hD,hd0,hd1,hd2,hd3,hd4,hd5⟩:=Fr.VMo.open hV;clear hV;have HF0:=HF.out;replace HF:=hid (HF0.since (HF0.since (HF0.since (HF0.since (HF0.since (HF0.since (Fr.Fm.callOwn HF0 hr HS.out HRS.out) hd5) hd4) hd3) hd2) hd1) hd0);replace HPS:=hid hps1;have HX1:=HX.out;unfold Tr.parsedP at HX1;simp only [hx]at HX1;replace HX:=hid HX1;clear HX1 HF0 hr hps1 hx hd0 hd1 hd2 hd3 hd4 hd5));rotate_left;(focus(replace HF:=hid (Fr.Fm.callOwn HF.out hr HS.out HRS.out);have HX1:=HX.out;unfold Tr.parsedP at HX1;simp only [hx]at HX1;replace HX:=hid HX1;clear HX1 HPS hr hx));rotate_left)
  | ((with_reducible refine is_store (T:=30) ?_);(refine Fr.wl_storeG 2 HF.out tyM rfl rfl rfl rfl rfl (z4 rfl) oT ?_);intro W1 hg1 HF1;(replace HPS:=hid (Fr.PS.past HPS.out (HF.out.at 2 rfl) HN4.out hg1));clear hg1;simp only [setL,z0,z1]at HF1;replace HF:=hid HF1;clear HF1))
 ·obtain⟨tv2,ts2,bm2,k2,hpk,hl2⟩:=HPS.out
  obtain⟨a2,c2,rfl⟩:=hpk.form
  have c0:=hpk.pb.cell 0
  have c1:=hpk.pb.cell 1
  have hk2:=hpk.hk
  have hll:=hpk.hl
  have he:(l1=[]) ↔ k2=ts2.length:=by
   rw [hl2,List.drop_eq_nil_iff]
   omega
  simp only [List.getElem?_toArray,List.getElem?_cons_zero,List.getElem?_cons_succ]at c0 c1
  clear hpk hl2
  refine region_tail 11 (by kernel_rfl) (by kernel_rfl) ?_
  simp only [List.take_succ_cons,List.take_zero,List.drop_succ_cons,List.drop_zero]
  by_cases hk:k2=ts2.length
  ·have hl1:=he.2 hk
   subst hk
   repeat still_step
   refine wpStill_nil ?_
   replace HF:=hid HF.out.drew
   generalize World.drew _=W3 at HF ⊢
   go_wp2_with (first
    | (go_at_call 59;(with_reducible refine(want_yes _ bp).mono ?_);rintro e W4 ⟨rfl,gm,rfl⟩;replace HF:=hid (HF.out.below (below_more (Below.refl _ _) (Nat.le_refl _) gm));generalize Go.Proofs.YtlhmkfcbldghfaaGreatDoor.more _ gm=W4 at HF ⊢)
    | (first|((with_reducible refine Fr.is_load (T:=30) ?_);(first|(refine Fr.wl_load 2 HF.out rfl rfl Tryz.underlying30 rfl tyM rfl ?_))))
    | (first|((with_reducible refine is_store (T:=30) ?_);((refine Fr.wl_store 2 HF.out tyM rfl rfl rfl rfl rfl (z4 rfl) oT ?_));intro W1 HF1;simp only [setL,z0,z1]at HF1;replace HF:=hid HF1;clear HF1)|((with_reducible refine is_store (T:=3) ?_);(((refine Fr.wl_store1 1 HF.out Fr.tyInt rfl rfl rfl rfl rfl ?_ ?_);(focus(rfl))));intro W1 HF1;simp only [setL,z0,z1]at HF1;replace HF:=hid HF1;clear HF1)|((with_reducible refine is_store (T:=31) ?_);(((refine Fr.wl_store1 0 HF.out Fr.tyEr rfl rfl rfl rfl rfl ?_ ?_);(focus(rfl))));intro W1 HF1;simp only [setL,z0,z1]at HF1;replace HF:=hid HF1;clear HF1)))
   have HX1:=HX.out
   rw [if_pos hl1]at HX1
   refine leaves_cons (f:=57) (args:=#[.pointer (some ⟨b4,0,none⟩),.pointer (some ⟨b5,0,none⟩),.pointer (some ⟨b6,0,none⟩)]) (by simp) (by simp [go_sem]) ?_
   refine(closure_idle _ _ _ _).mono ?_
   rintro e u' w2 ⟨rfl,rfl,rfl⟩
   show ∃ v,(results _ _).run Tryz.prog _=.ok v _∧Fr.ParsedIs w X (.returned v) _
   refine⟨_,Fr.fm_results3 HF.out Tryz.results18 rfl rfl rfl (k:=2) (k2:=1) (k3:=0) rfl rfl rfl Tryz.underlying30 rfl tyM rfl Tryz.underlying3 rfl Tryz.underlying31 rfl,HF.out.gr,?_⟩
   rw [HX1]
   refine⟨_,rfl,_,rfl,?_⟩
   rw [hD]
   (repeat' (first|exact Da.row_nil _ _|exact Da.Is.int _|exact Da.Is.str _|exact HF.out.out 0 rfl|exact HF.out.out 1 rfl|exact HF.out.out 2 rfl|exact HF.out.out 3 rfl|exact HF.out.out 4 rfl|exact HF.out.out 5 rfl|refine Da.row_cons ?_ ?_))
  ·have hl1:¬ l1=[]:=fun e=>hk (he.1 e)
   have hbq:((k2:Int) == (ts2.length:Int))=false:=beq_eq_false_iff_ne.2 (by omega)
   repeat still_step
   refine wpStill_nil ?_
   replace HF:=hid HF.out.drew
   replace HPS:=hid HPS.out.drew
   generalize World.drew _=W3 at HF HPS ⊢
   go_wp2_with (first
    | (go_at_call 59;(with_reducible refine(want_no _ _ bp en l1 HPS.out).mono ?_);rintro e W4 ⟨rfl,gm,rfl⟩;replace HF:=hid (HF.out.below (below_more (Below.refl _ _) (Nat.le_refl _) gm));generalize Go.Proofs.YtlhmkfcbldghfaaGreatDoor.more _ gm=W4 at HF ⊢))
   have HX1:=HX.out
   rw [if_neg hl1]at HX1
   refine leaves_cons (f:=57) (args:=#[.pointer (some ⟨b4,0,none⟩),.pointer (some ⟨b5,0,none⟩),.pointer (some ⟨b6,0,none⟩)]) (by simp) (by simp [go_sem]) ?_
   refine(closure_fault b4 b5 b6 _ _ _ _ _ _ _ _ _ _ (HF.out.pick [0,1,2] [] (by decide) (by simp) (by simp)) _ []).mono ?_
   rintro e u' w2 ⟨rfl,rfl,HF1⟩
   show ∃ v,(results _ _).run Tryz.prog _=.ok v _∧Fr.ParsedIs w X (.returned v) _
   refine⟨_,Fr.fm_results3 HF1 Tryz.results18 rfl rfl rfl (k:=2) (k2:=1) (k3:=0) rfl rfl rfl Tryz.underlying30 rfl tyM rfl Tryz.underlying3 rfl Tryz.underlying31 rfl,HF1.gr,?_⟩
   rw [HX1]
 ·have HX1:=HX.out
  refine leaves_cons (f:=57) (args:=#[.pointer (some ⟨b4,0,none⟩),.pointer (some ⟨b5,0,none⟩),.pointer (some ⟨b6,0,none⟩)]) (by simp) (by simp [go_sem]) ?_
  refine(closure_fault b4 b5 b6 _ _ _ _ _ _ _ _ _ _ (HF.out.pick [0,1,2] [] (by decide) (by simp) (by simp)) _ []).mono ?_
  rintro e u' w2 ⟨rfl,rfl,HF1⟩
  show ∃ v,(results _ _).run Tryz.prog _=.ok v _∧Fr.ParsedIs w X (.returned v) _
  refine⟨_,Fr.fm_results3 HF1 Tryz.results18 rfl rfl rfl (k:=2) (k2:=1) (k3:=0) rfl rfl rfl Tryz.underlying30 rfl tyM rfl Tryz.underlying3 rfl Tryz.underlying31 rfl,HF1.gr,?_⟩
  rw [HX1]
end Go.Proofs.YtlhmkfcbldghfaaGreatDoor
