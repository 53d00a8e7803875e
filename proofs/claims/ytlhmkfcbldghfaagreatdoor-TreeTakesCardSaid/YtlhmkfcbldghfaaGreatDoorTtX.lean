/- The walks of tree's parser's small functions: the next token,whether it is a sign,passing it,giving up. Conditions: the parser's block is as it is made. -/
import Derived.Test.YtlhmkfcbldghfaaGreatDoorFmX
import Derived.Test.YtlhmkfcbldghfaaGreatDoorMoreX
import Derived.Test.YtlhmkfcbldghfaaGreatDoorProg
import Derived.BigQuiet
import Derived.Deep.QuietTactic
import Derived.StillTailTactics
import Derived.WalkLawsBesides
import Derived.Handy
import Derived.Lib.Hide
import Derived.Deep.RegionWith
import Derived.RegionTactic
import Derived.MapKept
import Derived.DeepKeys4
import Derived.Maps.Keyed
namespace Go.Proofs.YtlhmkfcbldghfaaGreatDoor
set_option linter.all false
open Go.Lib (hid)
set_option maxRecDepth 1000000
set_option maxHeartbeats 16000000
open Go.RowKit
open Tr (rd_below rd_refl rd_trans)
theorem region_tail{P:Program}{id:Nat}{Q:Exit→Act→World→Prop}{a:Act}{w:World}{l:List Oper}(n:Nat)(hm:P.follows .mixedOrders=true)(hB:Region.lexTailB .any l.toArray n=true)
  (h:wpStill P l.toArray w.drew (fun a'=>wpList P l.toArray Q (l.drop n) a' w.drew) (l.take n) a):(Code.region id l.toArray true).wp P Q a w:=wp_region_still_tail n hm hB h
namespace Tr
abbrev gone(q:Int):Ending:=.panicked [{ v:=.iface 110 (.agg #[.int .i64 q]),recovered:=false }]
def tokV(t:Tok):Value:=.agg #[.int .i64 t.1,.string ⟨t.2.1.toArray⟩,.int .i64 t.2.2.1,.int .i64 t.2.2.2]
theorem PK.next{w:World}{B bp:Nat}{en:Int}{tv:Value}{ts:List Tok}{bm k:Nat}(h:PK w B bp en tv ts bm k)(hk:k<ts.length) :
  ∃ b off c,tv=.slice (some ⟨b,off,none⟩) ts.length c∧(ts.length:Int)≤(c:Int)∧(c:Int)≤9223372036854775807∧b<w.heap.size∧b ≠ bp∧w.cell? ⟨b,off+k * 4,none⟩=some (.int .i64 ts[k].1)∧w.cell? ⟨b,off+k * 4+1,none⟩=some (.string ⟨ts[k].2.1.toArray⟩) ∧
   w.cell? ⟨b,off+k * 4+2,none⟩=some (.int .i64 ts[k].2.2.1)∧w.cell? ⟨b,off+k * 4+3,none⟩=some (.int .i64 ts[k].2.2.2):=by
 rcases h.rd.2 with⟨h0,_⟩|⟨b,off,c,rfl,h1,h2,h3,h4⟩
 ·omega
 ·unfold maxLen at h2
  have ha:=fun j v (hv:(tkCell (ts[k]'hk))[j]?=some v)=>h4 _ _ (tkCells_at ts k (ts[k]'hk) j v (List.getElem?_eq_getElem hk) hv)
  refine⟨b,off,c,rfl,by omega,by omega,h3,(h.tb _ _ _ _ rfl (by omega)).2,?_,?_,?_,?_⟩
  ·have:=ha 0 _ rfl;rwa [show off+(k * 4+0)=off+k * 4 by omega]at this
  ·have:=ha 1 _ rfl;rwa [show off+(k * 4+1)=off+k * 4+1 by omega]at this
  ·have:=ha 2 _ rfl;rwa [show off+(k * 4+2)=off+k * 4+2 by omega]at this
  ·have:=ha 3 _ rfl;rwa [show off+(k * 4+3)=off+k * 4+3 by omega]at this
theorem isS_peek(en:Int)(w:List UInt8)(l:List Tok):isS w l=(((peek en l).1 == 2 || (peek en l).1 == 6) && (peek en l).2.1 == w):=by cases l <;> rfl
theorem isN_peek(en:Int)(l:List Tok):isN l=((peek en l).1 == 1):=by cases l <;> rfl
theorem PK.pass{w:World}{B bp:Nat}{en:Int}{tv:Value}{ts:List Tok}{bm k:Nat}(h:PK w B bp en tv ts bm k)(hl:ts.drop k ≠ []):PS (w.setCell ⟨bp,1,none⟩ (.int .i64 ((k:Int)+1))) B bp en (ts.drop k).tail:=by
 have hk:k<ts.length:=by
  rcases Nat.lt_or_ge k ts.length with h|h
  ·exact h
  ·exact absurd (List.drop_eq_nil_of_le h) hl
 refine⟨tv,ts,bm,k+1,h.move (k+1) hk,by simp [List.tail_drop]⟩
theorem PK.form{w:World}{B bp:Nat}{en:Int}{tv:Value}{ts:List Tok}{bm k:Nat}(h:PK w B bp en tv ts bm k):∃ a c,tv=.slice a ts.length c:=by
 rcases h.rd.2 with⟨h0,a,c,rfl,_⟩|⟨b,off,c,rfl,_⟩
 ·rw [h0];exact⟨_,_,rfl⟩
 ·exact⟨_,_,rfl⟩
end Tr
theorem peek_any(w:World)(B bp:Nat)(en:Int)(l:List Tr.Tok)(hp:Tr.PS w B bp en l) :
  Calls Tryz.prog 97 #[.pointer (some ⟨bp,0,none⟩)] w fun e w'=>e=.returned (Tr.tokV (Tr.peek en l))∧∃ g,w'=more w g:=by
 obtain⟨tv,ts,bm,k,h,rfl⟩:=hp
 have c0:=h.pb.cell 0
 have c1:=h.pb.cell 1
 have c2:=h.pb.cell 2
 simp at c0 c1 c2
 have hlt:=h.pb.lt
 by_cases hk:k<ts.length
 ·obtain⟨b,off,c,rfl,h1,h2,h3,_,d0,d1,d2,d3⟩:=h.next hk
  have he:Tr.peek en (ts.drop k)=ts[k]:=by rw [List.drop_eq_getElem_cons hk];rfl
  rw [he]
  generalize ts[k]=t at *
  have hki:(k:Int)<(ts.length:Int):=by omega
  have hl:=h.hl
  clear h he
  go_enter Tryz.func97,Tryz.ntmps97
  go_wp2
  go_quiet (fail)
  go_wp2
  refine region_tail 10 (by kernel_rfl) (by kernel_rfl) ?_
  simp only [List.take_succ_cons,List.take_zero,List.drop_succ_cons,List.drop_zero]
  repeat still_step
  refine wpStill_nil ?_
  go_wp2
  refine bodyPost_ret (v:=Tr.tokV t) (by simp [results,Tryz.results97,go_sem,Tr.tokV]) rfl ⟨rfl,more_of_below bT⟩
 ·obtain⟨a,c,rfl⟩:=h.form
  have he:Tr.peek en (ts.drop k)=(0,[],0,en):=by rw [List.drop_eq_nil_of_le (by omega)];rfl
  have hk2:k=ts.length:=by have:=h.hk;omega
  rw [he]
  clear h he hk
  subst hk2
  go_enter Tryz.func97,Tryz.ntmps97
  go_wp2
  go_quiet (fail)
  go_wp2
  refine bodyPost_ret (v:=Tr.tokV (0,[],0,en)) (by simp [results,Tryz.results97,go_sem,Tr.tokV]) rfl ⟨rfl,more_of_below bT⟩
namespace Tr
def Res{α:Type}(w:World)(B bp:Nat)(en:Int)(x:R α)(V:World→Value→α→Prop)(e:Ending)(w':World):Prop:=
 Rd w bp w'∧((∃ a l v,x=.ok a l∧PS w' B bp en l∧e=.returned v∧V w' v a)∨∃ q,x=.no q∧e=gone q)
theorem kd_cases(t:Tok):t.1=2∨t.1=6∨((t.1 == 2)=false∧(t.1 == 6)=false):=by
 by_cases h2:t.1=2
 ·exact .inl h2
 ·by_cases h6:t.1=6
  ·exact .inr (.inl h6)
  ·exact .inr (.inr ⟨by rw [beq_eq_false_iff_ne];exact h2,by rw [beq_eq_false_iff_ne];exact h6⟩)
theorem tx_ne{a b:List UInt8}(h:a ≠ b):((⟨a.toArray⟩:ByteArray).toList == (⟨b.toArray⟩:ByteArray).toList)=false:=by
 rw [ByteArray.toList_eq,ByteArray.toList_eq,beq_eq_false_iff_ne];exact h
end Tr
theorem is_any(w:World)(B bp:Nat)(en:Int)(l:List Tr.Tok)(tx:List UInt8)(hp:Tr.PS w B bp en l) :
  Calls Tryz.prog 102 #[.pointer (some ⟨bp,0,none⟩),.string ⟨tx.toArray⟩] w fun e w'=>e=.returned (.bool (Tr.isS tx l))∧∃ g,w'=more w g:=by
 have HP:=hid (fun w hp=>peek_any w B bp en l hp)
 rw [Tr.isS_peek en]
 generalize Tr.peek en l=t at *
 have HPS:=hid hp
 clear hp
 obtain⟨kd,t2,n,q⟩:=t
 have hk:=Tr.kd_cases (kd,t2,n,q)
 unfold Tr.tokV at HP
 simp only at HP hk ⊢
 rcases hk with rfl|rfl|⟨h2,h6⟩
 ·by_cases ht:t2=tx
  ·subst ht
   go_enter Tryz.func102,Tryz.ntmps102
   go_wp2_with (go_at_call 97;(with_reducible refine(HP.out _ HPS.out).mono ?_);rintro e w2 ⟨rfl,g,rfl⟩)
   go_ret
   exact⟨by simp,more_of_below bT⟩
  ·have hn:=Tr.tx_ne ht
   have HT:=hid ht
   clear ht
   go_enter Tryz.func102,Tryz.ntmps102
   go_wp2_with (go_at_call 97;(with_reducible refine(HP.out _ HPS.out).mono ?_);rintro e w2 ⟨rfl,g,rfl⟩)
   go_ret
   exact⟨by simp [HT.out],more_of_below bT⟩
 ·by_cases ht:t2=tx
  ·subst ht
   go_enter Tryz.func102,Tryz.ntmps102
   go_wp2_with (go_at_call 97;(with_reducible refine(HP.out _ HPS.out).mono ?_);rintro e w2 ⟨rfl,g,rfl⟩)
   go_ret
   exact⟨by simp,more_of_below bT⟩
  ·have hn:=Tr.tx_ne ht
   have HT:=hid ht
   clear ht
   go_enter Tryz.func102,Tryz.ntmps102
   go_wp2_with (go_at_call 97;(with_reducible refine(HP.out _ HPS.out).mono ?_);rintro e w2 ⟨rfl,g,rfl⟩)
   go_ret
   exact⟨by simp [HT.out],more_of_below bT⟩
 ·go_enter Tryz.func102,Tryz.ntmps102
  go_wp2_with (go_at_call 97;(with_reducible refine(HP.out _ HPS.out).mono ?_);rintro e w2 ⟨rfl,g,rfl⟩)
  go_ret
  exact⟨by simp [h2,h6],more_of_below bT⟩
namespace Tr
theorem tl_ne{tx:List UInt8}{l:List Tok}(h:isS tx l=true):l ≠ []:=by rintro rfl;cases h
end Tr
theorem took_any(w:World)(B bp:Nat)(en:Int)(l:List Tr.Tok)(tx:List UInt8)(hp:Tr.PS w B bp en l) :
  Calls Tryz.prog 100 #[.pointer (some ⟨bp,0,none⟩),.string ⟨tx.toArray⟩] w fun e w'=>e=.returned (.bool (Tr.isS tx l))∧Tr.Rd w bp w'∧Tr.PS w' B bp en (Tr.took tx l).2:=by
 have HI:=hid (fun w hp=>is_any w B bp en l tx hp)
 cases hb:Tr.isS tx l with
 | false =>
  rw [show(Tr.took tx l).2=l by unfold Tr.took;rw [hb];rfl]
  rw [hb]at HI
  have HPS:=hid hp
  clear hp hb
  go_enter Tryz.func100,Tryz.ntmps100
  go_wp2_with (go_at_call 102;(with_reducible refine(HI.out _ HPS.out).mono ?_);rintro e w2 ⟨rfl,g,rfl⟩)
  go_ret
  exact⟨rfl,Tr.rd_more (rd_refl _ _) _,HPS.out.more _⟩
 | true =>
  rw [show(Tr.took tx l).2=l.tail by unfold Tr.took;rw [hb];rfl]
  rw [hb]at HI
  obtain⟨tv,ts,bm,k,h,rfl⟩:=hp
  have hps:Tr.PS w B bp en (ts.drop k):=⟨tv,ts,bm,k,h,rfl⟩
  have HPS:=hid hps
  clear hps
  have HK:=hid h
  have HN:=hid (Tr.tl_ne hb)
  have c1:=h.pb.cell 1
  simp at c1
  have f1:=h.pb.free 1
  have hlt:=h.pb.lt
  have hk:=h.hk
  have hl:=h.hl
  have hki:(k:Int)≤6000:=by omega
  clear h hb hk hl
  go_enter Tryz.func100,Tryz.ntmps100
  go_wp2_with (go_at_call 102;(with_reducible refine(HI.out _ HPS.out).mono ?_);rintro e w2 ⟨rfl,g,rfl⟩)
  go_ret
  exact⟨rfl,Tr.rd_more (Tr.rd_set (rd_refl _ _) (.inl rfl) _ _) _,(HK.out.pass HN.out).more _⟩
namespace Tr
theorem posOf_peek(en:Int)(l:List Tok):posOf en l=(peek en l).2.2.2:=rfl
end Tr
theorem want_yes(w:World)(bp:Nat):Calls Tryz.prog 59 #[.pointer (some ⟨bp,0,none⟩),.bool true] w fun e w'=>e=.returned (.tuple #[])∧∃ g,w'=more w g:=by
 go_enter Tryz.func59,Tryz.ntmps59
 go_wp2
 go_end0
 exact⟨rfl,more_refl _⟩
theorem want_no(w:World)(B bp:Nat)(en:Int)(l:List Tr.Tok)(hp:Tr.PS w B bp en l):Calls Tryz.prog 59 #[.pointer (some ⟨bp,0,none⟩),.bool false] w fun e w'=>e=Tr.gone (Tr.posOf en l)∧∃ g,w'=more w g:=by
 have HP:=hid (fun w hp=>peek_any w B bp en l hp)
 rw [Tr.posOf_peek]
 generalize Tr.peek en l=t at *
 obtain⟨kd,t2,n,q⟩:=t
 unfold Tr.tokV at HP
 simp only at HP ⊢
 have HPS:=hid hp
 clear hp
 have hfld:∀(a b c d:Value) (w:World),(Instr.field 40 (.agg #[a,b,c,d]) 3).run Tryz.prog w=.ok d w:=fun _ _ _ _ _=>by kernel_rfl
 go_enter Tryz.func59,Tryz.ntmps59
 go_wp2_with (go_at_call 97;(with_reducible refine(HP.out _ HPS.out).mono ?_);rintro e w2 ⟨rfl,g,rfl⟩)
 exact⟨rfl,rfl,more_of_below bT⟩
theorem skip_any(w:World)(B bp:Nat)(en:Int)(l:List Tr.Tok)(tx:List UInt8)(hp:Tr.PS w B bp en l) :
  Calls Tryz.prog 98 #[.pointer (some ⟨bp,0,none⟩),.string ⟨tx.toArray⟩] w (Tr.Res w B bp en (Tr.skip en tx l) (fun _ v _=>v=.tuple #[])):=by
 have HI:=hid (fun w hp=>is_any w B bp en l tx hp)
 have HN:=hid (fun w hp=>want_no w B bp en l hp)
 have HY:=hid (fun w=>want_yes w bp)
 cases hb:Tr.isS tx l with
 | false =>
  rw [hb]at HI
  have HR:=hid (show Tr.skip en tx l=.no (Tr.posOf en l)by unfold Tr.skip;rw [hb];rfl)
  have HPS:=hid hp
  clear hp hb
  go_enter Tryz.func98,Tryz.ntmps98
  go_wp2_with (first|(go_at_call 102;(with_reducible refine(HI.out _ HPS.out).mono ?_);rintro e w2 ⟨rfl,g,rfl⟩)|(go_at_call 59;(with_reducible refine(HN.out _ (HPS.out.more _)).mono ?_);rintro e w3 ⟨rfl,g3,rfl⟩))
  exact⟨rfl,Tr.rd_more (rd_refl _ _) _,.inr ⟨_,HR.out,rfl⟩⟩
 | true =>
  rw [hb]at HI
  have HR:=hid (show Tr.skip en tx l=.ok () l.tail by unfold Tr.skip;rw [hb];rfl)
  obtain⟨tv,ts,bm,k,h,rfl⟩:=hp
  have hps:Tr.PS w B bp en (ts.drop k):=⟨tv,ts,bm,k,h,rfl⟩
  have HPS:=hid hps
  clear hps
  have HK:=hid h
  have HNe:=hid (Tr.tl_ne hb)
  have c1:=h.pb.cell 1
  simp at c1
  have f1:=h.pb.free 1
  have hlt:=h.pb.lt
  have hk:=h.hk
  have hl:=h.hl
  have hki:(k:Int)≤6000:=by omega
  clear h hb hk hl
  go_enter Tryz.func98,Tryz.ntmps98
  go_wp2_with (first|(go_at_call 102;(with_reducible refine(HI.out _ HPS.out).mono ?_);rintro e w2 ⟨rfl,g,rfl⟩)|(go_at_call 59;(with_reducible refine(HY.out _).mono ?_);rintro e w3 ⟨rfl,g3,rfl⟩))
  go_end0
  exact⟨Tr.rd_more (Tr.rd_set (rd_refl _ _) (.inl rfl) _ _) _,.inl ⟨(),_,_,HR.out,(HK.out.pass HNe.out).more _,rfl,rfl⟩⟩
namespace Tr
def VTok(_:World)(v:Value)(t:Tok):Prop:=v=tokV t
theorem isN_no{en:Int}{l:List Tok}(h:isN l=false):nameT en l=.no (posOf en l):=by unfold nameT;rw [h];rfl
theorem isN_ok{en:Int}{l:List Tok}(h:isN l=true):nameT en l=.ok (peek en l) l.tail:=by unfold nameT;rw [h];rfl
end Tr
theorem name_any(w:World)(B bp:Nat)(en:Int)(l:List Tr.Tok)(hp:Tr.PS w B bp en l) :
  Calls Tryz.prog 99 #[.pointer (some ⟨bp,0,none⟩)] w (Tr.Res w B bp en (Tr.nameT en l) Tr.VTok):=by
 have HP:=hid (fun w hp=>peek_any w B bp en l hp)
 have HN:=hid (fun w hp=>want_no w B bp en l hp)
 have HY:=hid (fun w=>want_yes w bp)
 have hfld:∀(a b c d:Value) (w:World),(Instr.field 40 (.agg #[a,b,c,d]) 0).run Tryz.prog w=.ok a w:=fun _ _ _ _ _=>by kernel_rfl
 cases hb:Tr.isN l with
 | false =>
  have HR:=hid (Tr.isN_no (en:=en) hb)
  rw [Tr.isN_peek en]at hb
  generalize Tr.peek en l=t at *
  obtain⟨kd,t2,n,q⟩:=t
  unfold Tr.tokV at HP
  simp only at HP hb
  have HPS:=hid hp
  clear hp
  go_enter Tryz.func99,Tryz.ntmps99
  go_wp2_with (first|(go_at_call 97;(with_reducible refine(HP.out _ ?_).mono ?_);(focus(exact HPS.out.below bT));rintro e w2 ⟨rfl,g,rfl⟩)|(go_at_call 59;(with_reducible refine(HN.out _ ?_).mono ?_);(focus(exact HPS.out.below bT));rintro e w3 ⟨rfl,g3,rfl⟩))
  exact⟨rfl,rd_below (rd_refl _ _) bT,.inr ⟨_,HR.out,rfl⟩⟩
 | true =>
  have HR:=hid (Tr.isN_ok (en:=en) hb)
  have HNe:=hid (Tr.isN_ne hb)
  rw [Tr.isN_peek en]at hb
  obtain⟨tv,ts,bm,k,h,rfl⟩:=hp
  have hps:Tr.PS w B bp en (ts.drop k):=⟨tv,ts,bm,k,h,rfl⟩
  have HPS:=hid hps
  clear hps
  have HK:=hid h
  have c1:=h.pb.cell 1
  simp at c1
  have f1:=h.pb.free 1
  have hlt:=h.pb.lt
  have hk:=h.hk
  have hl:=h.hl
  have hki:(k:Int)≤6000:=by omega
  clear h hk hl
  generalize Tr.peek en (ts.drop k)=t at *
  obtain⟨kd,t2,n,q⟩:=t
  unfold Tr.tokV at HP
  simp only at HP hb
  go_enter Tryz.func99,Tryz.ntmps99
  go_wp2_with (first|(go_at_call 97;(with_reducible refine(HP.out _ ?_).mono ?_);(focus(exact HPS.out.below bT));rintro e w2 ⟨rfl,g,rfl⟩)|(go_at_call 59;(with_reducible refine(HY.out _).mono ?_);rintro e w3 ⟨rfl,g3,rfl⟩))
  refine bodyPost_ret (v:=Tr.tokV (kd,t2,n,q)) (by simp [results,Tryz.results99,go_sem,Tr.tokV]) rfl ⟨rd_below (Tr.rd_set (rd_refl _ _) (.inl rfl) _ _) bT,.inl ⟨_,_,_,HR.out,(HK.out.pass HNe.out).below bT,rfl,rfl⟩⟩
theorem peek_is(w:World)(B bp:Nat)(en:Int)(l:List Tr.Tok)(kd n q:Int)(t2:List UInt8)(hp:Tr.PS w B bp en l)(ht:Tr.peek en l=(kd,t2,n,q)) :
  Calls Tryz.prog 97 #[.pointer (some ⟨bp,0,none⟩)] w fun e w'=>e=.returned (.agg #[.int .i64 kd,.string ⟨t2.toArray⟩,.int .i64 n,.int .i64 q])∧∃ g,w'=more w g:=by
 have:=peek_any w B bp en l hp
 rw [ht]at this
 exact this
namespace Tr
theorem PS.at{w:World}{B bp:Nat}{en:Int}{l:List Tok}(h:PS w B bp en l):∃ k:Nat,w.cell? ⟨bp,1,none⟩=some (.int .i64 k)∧w.frozen? ⟨bp,1,none⟩=false∧bp<w.heap.size∧(k:Int)≤6000∧(l ≠ []→PS (w.setCell ⟨bp,1,none⟩ (.int .i64 ((k:Int)+1))) B bp en l.tail):=by
 obtain⟨tv,ts,bm,k,h,rfl⟩:=h
 have c1:=h.pb.cell 1
 simp at c1
 exact⟨k,c1,h.pb.free 1,h.pb.lt,by have:=h.hk;have:=h.hl;omega,fun hn=>h.pass hn⟩
theorem passed{w w2 wf:World}{B bp k:Nat}{en:Int}{l:List Tok}(hAT:l ≠ []→PS (w2.setCell ⟨bp,1,none⟩ (.int .i64 ((k:Int)+1))) B bp en l.tail)(hr:Rd w bp w2)(hne:l ≠ [])(hb:Below (w2.setCell ⟨bp,1,none⟩ (.int .i64 ((k:Int)+1))).heap.size (w2.setCell ⟨bp,1,none⟩ (.int .i64 ((k:Int)+1))) wf) :
  Rd w bp wf∧PS wf B bp en l.tail:=⟨rd_below (rd_set hr (.inl rfl) _ _) hb,(hAT hne).below hb⟩
theorem ne_of_kd{en:Int}{l:List Tok}{kd n q:Int}{t2:List UInt8}(h:peek en l=(kd,t2,n,q))(hk:kd ≠ 0):l ≠ []:=by
 rintro rfl
 simp [peek]at h
 exact hk h.1.symm
theorem ends_no{en:Int}{w:List UInt8}{l l1:List Tok}(h:skip en [69,78,68] l=.ok () l1)(h2:(isN l1 && (peek en l1).2.1 == w)=false):endsP en w l=.no (posOf en l1):=by
 unfold endsP;rw [h];simp only [R.bind];rw [h2];rfl
theorem ends_ok{en:Int}{w:List UInt8}{l l1:List Tok}(h:skip en [69,78,68] l=.ok () l1)(h2:(isN l1 && (peek en l1).2.1 == w)=true):endsP en w l=.ok () l1.tail:=by
 unfold endsP;rw [h];simp only [R.bind];rw [h2];rfl
theorem ends_no1{en:Int}{w:List UInt8}{l:List Tok}{q:Int}(h:skip en [69,78,68] l=.no q):endsP en w l=.no q:=by
 unfold endsP;rw [h];rfl
end Tr
theorem ends_any(w:World)(B bp:Nat)(en:Int)(l:List Tr.Tok)(nm:List UInt8)(hp:Tr.PS w B bp en l) :
  Calls Tryz.prog 105 #[.pointer (some ⟨bp,0,none⟩),.string ⟨nm.toArray⟩] w (Tr.Res w B bp en (Tr.endsP en nm l) (fun _ v _=>v=.tuple #[])):=by
 have HS:=hid (fun w hp=>skip_any w B bp en l [69,78,68] hp)
 have HY:=hid (fun w=>want_yes w bp)
 have hfld0:∀(a b c d:Value) (w:World),(Instr.field 40 (.agg #[a,b,c,d]) 0).run Tryz.prog w=.ok a w:=fun _ _ _ _ _=>by kernel_rfl
 have hfld1:∀(a b c d:Value) (w:World),(Instr.field 40 (.agg #[a,b,c,d]) 1).run Tryz.prog w=.ok b w:=fun _ _ _ _ _=>by kernel_rfl
 have HPS:=hid hp
 clear hp
 go_enter Tryz.func105,Tryz.ntmps105
 go_wp2_with (first
  | (go_at_call 98;(with_reducible refine(HS.out _ HPS.out).mono ?_);rintro e w2 ⟨hr,⟨⟨⟩,l1,v,hx,hps,rfl,rfl⟩|⟨q,hx,rfl⟩⟩;(focus(obtain⟨t,ht⟩:∃ t,Tr.peek en l1=t:=⟨_,rfl⟩;obtain⟨kd,t2,n,q⟩:=t;obtain⟨k,c1,f1,hlt,hk,HAT⟩:=hps.at;have hr2:=hid hr;have hx2:=hid hx;have hps2:=hid hps;have ht2:=hid ht;have HAT2:=hid HAT;clear hr hx hps ht HAT));rotate_left;(focus(have hr2:=hid hr;have hx2:=hid hx;clear hr hx));rotate_left)
  | (go_at_call 97;(with_reducible refine(peek_is _ B bp en l1 kd n q t2 (hps2.out.below ?_) ht2.out).mono ?_);(focus(exact bT));rintro e w3 ⟨rfl,g3,rfl⟩)
  | (go_at_call 59;first|((with_reducible refine(HY.out _).mono ?_);rintro e w4 ⟨rfl,g4,rfl⟩)|((with_reducible refine(want_no _ B bp en l1 (hps2.out.below ?_)).mono ?_);(focus(exact bT));rintro e w4 ⟨rfl,g4,rfl⟩)|(generalize hq:(t2 == nm)=bq;cases bq <;> replace hq:=hid hq)))
 all_goals first
  | exact⟨rfl,hr2.out,.inr ⟨_,Tr.ends_no1 hx2.out,rfl⟩⟩
  | (refine⟨rfl,?_,.inr ⟨_,Tr.ends_no hx2.out ?_,rfl⟩⟩;(focus(refine rd_below hr2.out ?_;exact bT));(rw [Tr.isN_peek en,ht2.out];first|(have hqo:=hq.out;simp [hqo];done)|(simp [*];done)))
  | skip
 ·go_end0
  have hne:=Tr.ne_of_kd ht2.out (by omega)
  refine⟨(Tr.passed HAT2.out hr2.out hne ?_).1,.inl ⟨(),_,_,Tr.ends_ok hx2.out ?_,(Tr.passed HAT2.out hr2.out hne ?_).2,rfl,rfl⟩⟩
  ·exact bT
  ·rw [Tr.isN_peek en,ht2.out]
   have hqo:=hq.out
   simp only [beq_iff_eq]at hqo
   simp [*]
  ·exact bT
namespace Tr
theorem Blk.rd{w w':World}{b bp:Nat}{cs:Array Value}(h:Blk w b cs)(hr:Rd w bp w')(hne:bp ≠ b):Blk w' b cs:=h.grown hr (fun e=>hne (by simpa using e))
theorem def_ok{en:Int}{l l1:List Tok}{t:Tok}(h:nameT en l=.ok t l1):defT en true l=.ok (t,isS [42] l1) (took [42] l1).2:=by
 unfold defT took;rw [h];simp only [R.bind,Bool.true_and]
 cases isS [42] l1 <;> rfl
abbrev VDef(_:World)(v:Value)(x:Tok × Bool):Prop:=v=.tuple #[tokV x.1,.bool x.2]
end Tr
theorem def_any(w:World)(B bp:Nat)(en:Int)(l:List Tr.Tok)(outer:Bool)(hp:Tr.PS w B bp en l) :
  Calls Tryz.prog 146 #[.pointer (some ⟨bp,0,none⟩),.bool outer] w (Tr.Res w B bp en (Tr.defT en outer l) Tr.VDef):=by
 have HNm:=hid (fun w hp=>name_any w B bp en l hp)
 have HTk:=hid (fun w l hp=>took_any w B bp en l [42] hp)
 have hB:=hp.size
 have hb:=hp.ptr
 have HPS:=hid hp
 clear hp
 cases outer
 ·go_enter Tryz.func146,Tryz.ntmps146
  go_wp2_with (go_at_call 99;(with_reducible refine(HNm.out _ ?_).mono ?_);(focus(exact HPS.out.below bT));rintro e w2 ⟨hr,⟨t,l1,v,hx,hps,rfl,hv⟩|⟨q,hx,rfl⟩⟩;(focus(obtain⟨kd,t2,n,q⟩:=t;obtain rfl:v=.agg #[.int .i64 kd,.string ⟨t2.toArray⟩,.int .i64 n,.int .i64 q]:=hv;have HX:=hid ((Tr.blk_new _ _ _).rd hr (by omega));have hx4:=HX.out.cell;have hf4:=HX.out.free;have hs2:=hr.size;simp at hs2;have hs3:w.heap.size<w2.heap.size:=(by omega);replace HR:=hid (show Tr.Rd w bp _ from rd_trans rT hr);have hx2:=hid hx;have HP:=hid hps;clear hr hx hps));rotate_left;(focus(replace HR:=hid (show Tr.Rd w bp _ from rd_trans rT hr);have hx2:=hid hx;clear hr hx));rotate_left)
  ·go_region
   all_goals go_wp2
   all_goals refine bodyPost_ret (v:=.tuple #[.agg #[.int .i64 kd,.string ⟨t2.toArray⟩,.int .i64 n,.int .i64 q],.bool false]) (by simp [results,Tryz.results146,go_sem,hx4,hf4,hs3]) rfl ?_
   all_goals (refine⟨?_,.inl ⟨_,l1,_,by unfold Tr.defT;rw [hx2.out];rfl,?_,rfl,rfl⟩⟩;(focus(exact rT));exact pT)
  ·exact⟨rfl,HR.out,.inr ⟨_,by unfold Tr.defT;rw [hx2.out];rfl,rfl⟩⟩
 ·go_enter Tryz.func146,Tryz.ntmps146
  go_wp2_with (go_at_call 99;(with_reducible refine(HNm.out _ ?_).mono ?_);(focus(exact HPS.out.below bT));rintro e w2 ⟨hr,⟨t,l1,v,hx,hps,rfl,hv⟩|⟨q,hx,rfl⟩⟩;(focus(obtain⟨kd,t2,n,q⟩:=t;obtain rfl:v=.agg #[.int .i64 kd,.string ⟨t2.toArray⟩,.int .i64 n,.int .i64 q]:=hv;have HX:=hid ((Tr.blk_new _ _ _).rd hr (by omega));have hx4:=HX.out.cell;have hf4:=HX.out.free;have hs2:=hr.size;simp at hs2;have hs3:w.heap.size<w2.heap.size:=(by omega);replace HR:=hid (show Tr.Rd w bp _ from rd_trans rT hr);have hx2:=hid hx;have HP:=hid hps;clear hr hx hps));rotate_left;(focus(replace HR:=hid (show Tr.Rd w bp _ from rd_trans rT hr);have hx2:=hid hx;clear hr hx));rotate_left)
  ·have HW:=hid ((Tr.blk_new w2 #[.int .i64 kd,.string ⟨t2.toArray⟩,.int .i64 n,.int .i64 q] 40))
   cases hs:Tr.isS [42] l1
   all_goals
    have HTk1:=hid (fun w hp=>took_any w B bp en l1 [42] hp)
    rw [hs]at HTk1
    have HS:=hid hs
    clear hs HTk
    go_region_with (go_at_call 100;(with_reducible refine(HTk1.out _ ?_).mono ?_);(focus(exact HP.out.below bT));rintro e w3 ⟨rfl,hr3,hp3⟩;have HX3:=hid ((HX.out.below bT).rd hr3 (by omega));have hx5:=HX3.out.cell;have hf5:=HX3.out.free;have HY3:=hid ((HW.out.below bT).rd hr3 (by omega));have hy5:=HY3.out.cell;replace HR:=hid (show Tr.Rd w bp _ from rd_trans rT hr3);replace HP:=hid hp3;have hs5:=hr3.size;simp at hs5;have hs6:w.heap.size<w3.heap.size:=(by omega);have hs7:w2.heap.size<w3.heap.size:=(by omega);clear hr3 hp3)
    all_goals go_wp2
    all_goals refine bodyPost_ret (v:=.tuple #[.agg #[.int .i64 kd,.string ⟨t2.toArray⟩,.int .i64 n,.int .i64 q],.bool (Tr.isS [42] l1)]) (by simp [results,Tryz.results146,go_sem,Act.put,hx5,hf5,hs6,hs7,HS.out]) rfl ?_
    all_goals (refine⟨?_,.inl ⟨_,_,_,Tr.def_ok hx2.out,?_,rfl,rfl⟩⟩;(focus(exact rT));exact pT)
  ·exact⟨rfl,HR.out,.inr ⟨_,by unfold Tr.defT;rw [hx2.out];rfl,rfl⟩⟩
namespace Tr
def Ix(ws:List (List UInt8))(v:List UInt8)(w:World)(e:Ending)(w':World):Prop:=(∃ r:Int,e=.returned (.int .i64 r)∧decide (0≤r)=ws.contains v)∧w'=w
end Tr
theorem index_any(ws:List (List UInt8))(v:List UInt8)(b off n c:Nat)(w:World)(hn:ws.length=n)(hm:(n:Int)≤1000)(hc:(n:Int)≤(c:Int))
  (HX:Hid (∀ k (h:k<ws.length),w.cell? ⟨b,off+k,none⟩=some (.string ⟨ws[k].toArray⟩))) :
  Calls Tryz.prog 199 #[.slice (some ⟨b,off,none⟩) n c,.string ⟨v.toArray⟩] w (Tr.Ix ws v w):=by
 have HN:=hid hn
 clear hn
 go_enter Tryz.func199,Tryz.ntmps199
 go_wp2
 go_loop [5,8,10,11,12,13,14,15,16,9] (fun _ i _ _ _ _ _ _ _ _=>∃ k:Nat,k≤n∧i=.int .i64 k∧Hid (∀ j (h:j<ws.length),j<k→ws[j] ≠ v)) (fun _ i _ _ _ _ _ _ _ _=>n - (intOf i).toNat)
 case atStart=>exact⟨0,by omega,rfl,hid (fun j h1 h=>by omega)⟩
 case round =>
  obtain⟨k,hk,rfl,H⟩:=hrel
  by_cases hlt:k<n
  ·have h1:k<ws.length:=by rw [HN.out];exact hlt
   have c1:=HX.out k h1
   have hk0:(0:Int)≤(k:Int):=by omega
   have hk1:(k:Int)<(n:Int):=by omega
   by_cases he:ws[k]=v
   ·rw [he]at c1
    have HF:=hid (show ws.contains v=true by rw [List.contains_iff_mem,← he];exact List.getElem_mem _)
    clear he
    go_wp2
    go_ret
    exact⟨⟨_,rfl,by rw [HF.out];simp⟩,rfl⟩
   ·have hn1:(v == ws[k])=false:=by rw [beq_eq_false_iff_ne];exact Ne.symm he
    have HNx:=hid (show ∀ j (h:j<ws.length),j<k+1→ws[j] ≠ v from fun j q1 h=>by
     by_cases hj:j=k
     ·subst hj;exact he
     ·exact H.out j q1 (by omega))
    clear he
    generalize ws[k]=x at *
    go_wp2
    go_round
    case rel=>exact⟨k+1,by omega,by go_num,HNx⟩
    case measure=>simp [intOf];omega
  ·have hkn:k=n:=by omega
   subst hkn
   have HF:=hid (show ws.contains v=false by
    rw [Bool.eq_false_iff,ne_eq,List.contains_iff_mem]
    intro hm
    obtain⟨j,hj,he⟩:=List.getElem_of_mem hm
    exact H.out j hj (by rw [HN.out]at hj;exact hj) he)
   go_wp2
   go_ret
   exact⟨⟨_,rfl,by rw [HF.out];rfl⟩,rfl⟩
theorem contains_any(ws:List (List UInt8))(v:List UInt8)(b off n c:Nat)(w:World)(hn:ws.length=n)(hm:(n:Int)≤1000)(hc:(n:Int)≤(c:Int))
  (HX:Hid (∀ k (h:k<ws.length),w.cell? ⟨b,off+k,none⟩=some (.string ⟨ws[k].toArray⟩))) :
  Calls Tryz.prog 159 #[.slice (some ⟨b,off,none⟩) n c,.string ⟨v.toArray⟩] w fun e w'=>e=.returned (.bool (ws.contains v))∧w'=w:=by
 have HI:=hid (index_any ws v b off n c w hn hm hc HX)
 clear hn HX
 go_enter Tryz.func159,Tryz.ntmps159
 go_wp2_with (go_at_call 199;(with_reducible refine(HI.out).mono ?_);rintro e w2 ⟨⟨r,rfl,hq⟩,hw2⟩;have hw3:=hw2.symm;subst hw3;replace hq:=hid hq)
 go_ret
 exact⟨by first|rfl|(rw [hq.out];rfl),rfl⟩
namespace Tr
def opR(ws:List (List UInt8))(l:List Tok):List Tok:=match opT ws l with|some _=>l.tail|none=>l
def opV(ws:List (List UInt8))(l:List Tok):Value:=.tuple #[.string ⟨((opT ws l).getD []).toArray⟩,.bool (opT ws l).isSome]
theorem op_yes{en:Int}{ws:List (List UInt8)}{l:List Tok}{kd n q:Int}{t2:List UInt8}(h:peek en l=(kd,t2,n,q))(hk:kd=2∨kd=6)(hc:ws.contains t2=true):opT ws l=some t2:=by
 cases l with
 | nil=>simp [peek]at h;omega
 | cons t l =>
  simp only [peek]at h
  subst h
  unfold opT
  simp only
  rw [if_pos]
  simp only [hc,Bool.and_true]
  rcases hk with rfl|rfl <;> rfl
theorem op_no{en:Int}{ws:List (List UInt8)}{l:List Tok}{kd n q:Int}{t2:List UInt8}(h:peek en l=(kd,t2,n,q))(hk:((kd == 2)=false∧(kd == 6)=false)∨ws.contains t2=false):opT ws l=none:=by
 cases l with
 | nil=>rfl
 | cons t l =>
  simp only [peek]at h
  subst h
  unfold opT
  simp only
  rw [if_neg]
  rcases hk with⟨h1,h2⟩|h1
  ·simp [h1,h2]
  ·rw [h1,Bool.and_false];decide
end Tr
theorem op_any(w:World)(B bp:Nat)(en:Int)(l:List Tr.Tok)(ws:List (List UInt8))(b off n c:Nat)(hp:Tr.PS w B bp en l)(hn:ws.length=n)(hm:(n:Int)≤1000)(hc:(n:Int)≤(c:Int))(hb:b<w.heap.size)
  (HX:Hid (∀ k (h:k<ws.length),w.cell? ⟨b,off+k,none⟩=some (.string ⟨ws[k].toArray⟩))) :
  Calls Tryz.prog 184 #[.pointer (some ⟨bp,0,none⟩),.slice (some ⟨b,off,none⟩) n c] w fun e w'=>e=.returned (Tr.opV ws l)∧Tr.Rd w bp w'∧Tr.PS w' B bp en (Tr.opR ws l):=by
 obtain⟨t,ht⟩:∃ t,Tr.peek en l=t:=⟨_,rfl⟩
 obtain⟨kd,t2,m,q⟩:=t
 have HPk:=hid (fun w hp=>peek_is w B bp en l kd m q t2 hp ht)
 have HC:=hid (fun W (hW:Below w.heap.size w W)=>contains_any ws t2 b off n c W hn hm hc (hid fun k h=>(hW.cell (p:=⟨b,off+k,none⟩) hb).trans (HX.out k h)))
 have HPS:=hid hp
 have hk:=Tr.kd_cases (kd,t2,m,q)
 obtain⟨k,c1,f1,hlt,hk6,HAT⟩:=hp.at
 have HAT2:=hid HAT
 have HT:=hid ht
 have HR:=hid (rd_refl w bp)
 clear hp ht HAT HX hn hm
 cases hct:ws.contains t2
 all_goals
  rw [hct]at HC
  have HCt:=hid hct
  clear hct
  rcases hk with hk|hk|⟨h2,h6⟩
 all_goals (simp only at *)
 ·subst hk
  have e:=Tr.op_no (ws:=ws) HT.out (.inr HCt.out)
  have HO:=hid (show Tr.opV ws l=.tuple #[.string ⟨#[]⟩,.bool false]∧Tr.opR ws l=l by unfold Tr.opV Tr.opR;rw [e];exact⟨rfl,rfl⟩)
  clear e
  go_enter Tryz.func184,Tryz.ntmps184
  go_wp2_with (first|(go_at_call 97;(with_reducible refine(HPk.out _ HPS.out).mono ?_);rintro e w2 ⟨rfl,g2,rfl⟩)|(go_at_call 159;(with_reducible refine(HC.out _ ?_).mono ?_);(focus(exact bT));rintro e w3 ⟨rfl,hw3⟩;have hw4:=hw3.symm;subst hw4))
  go_ret2
  exact⟨HO.out.1.symm ▸ rfl,rd_below HR.out bT,by rw [HO.out.2];exact HPS.out.below bT⟩
 ·subst hk
  have e:=Tr.op_no (ws:=ws) HT.out (.inr HCt.out)
  have HO:=hid (show Tr.opV ws l=.tuple #[.string ⟨#[]⟩,.bool false]∧Tr.opR ws l=l by unfold Tr.opV Tr.opR;rw [e];exact⟨rfl,rfl⟩)
  clear e
  go_enter Tryz.func184,Tryz.ntmps184
  go_wp2_with (first|(go_at_call 97;(with_reducible refine(HPk.out _ HPS.out).mono ?_);rintro e w2 ⟨rfl,g2,rfl⟩)|(go_at_call 159;(with_reducible refine(HC.out _ ?_).mono ?_);(focus(exact bT));rintro e w3 ⟨rfl,hw3⟩;have hw4:=hw3.symm;subst hw4))
  go_ret2
  exact⟨HO.out.1.symm ▸ rfl,rd_below HR.out bT,by rw [HO.out.2];exact HPS.out.below bT⟩
 ·have e:=Tr.op_no (ws:=ws) HT.out (.inl ⟨h2,h6⟩)
  have HO:=hid (show Tr.opV ws l=.tuple #[.string ⟨#[]⟩,.bool false]∧Tr.opR ws l=l by unfold Tr.opV Tr.opR;rw [e];exact⟨rfl,rfl⟩)
  have n2:(kd != 2)=true:=by simp only [bne,h2];rfl
  have n6:(kd != 6)=true:=by simp only [bne,h6];rfl
  clear e
  go_enter Tryz.func184,Tryz.ntmps184
  go_wp2_with ((go_at_call 97;(with_reducible refine(HPk.out _ HPS.out).mono ?_);rintro e w2 ⟨rfl,g2,rfl⟩))
  go_ret2
  exact⟨HO.out.1.symm ▸ rfl,rd_below HR.out bT,by rw [HO.out.2];exact HPS.out.below bT⟩
 ·subst hk
  have e:=Tr.op_yes (ws:=ws) HT.out (.inl rfl) HCt.out
  have HO:=hid (show Tr.opV ws l=.tuple #[.string ⟨t2.toArray⟩,.bool true]∧Tr.opR ws l=l.tail by unfold Tr.opV Tr.opR;rw [e];exact⟨rfl,rfl⟩)
  have HNe:=hid (Tr.ne_of_kd HT.out (by decide))
  clear e
  go_enter Tryz.func184,Tryz.ntmps184
  go_wp2_with (first|(go_at_call 97;(with_reducible refine(HPk.out _ HPS.out).mono ?_);rintro e w2 ⟨rfl,g2,rfl⟩)|(go_at_call 159;(with_reducible refine(HC.out _ ?_).mono ?_);(focus(exact bT));rintro e w3 ⟨rfl,hw3⟩;have hw4:=hw3.symm;subst hw4))
  go_ret2
  refine⟨HO.out.1.symm ▸ rfl,(Tr.passed HAT2.out HR.out HNe.out ?_).1,by rw [HO.out.2];exact(Tr.passed HAT2.out HR.out HNe.out bT).2⟩
  exact bT
 ·subst hk
  have e:=Tr.op_yes (ws:=ws) HT.out (.inr rfl) HCt.out
  have HO:=hid (show Tr.opV ws l=.tuple #[.string ⟨t2.toArray⟩,.bool true]∧Tr.opR ws l=l.tail by unfold Tr.opV Tr.opR;rw [e];exact⟨rfl,rfl⟩)
  have HNe:=hid (Tr.ne_of_kd HT.out (by decide))
  clear e
  go_enter Tryz.func184,Tryz.ntmps184
  go_wp2_with (first|(go_at_call 97;(with_reducible refine(HPk.out _ HPS.out).mono ?_);rintro e w2 ⟨rfl,g2,rfl⟩)|(go_at_call 159;(with_reducible refine(HC.out _ ?_).mono ?_);(focus(exact bT));rintro e w3 ⟨rfl,hw3⟩;have hw4:=hw3.symm;subst hw4))
  go_ret2
  refine⟨HO.out.1.symm ▸ rfl,(Tr.passed HAT2.out HR.out HNe.out ?_).1,by rw [HO.out.2];exact(Tr.passed HAT2.out HR.out HNe.out bT).2⟩
  exact bT
 ·have e:=Tr.op_no (ws:=ws) HT.out (.inl ⟨h2,h6⟩)
  have HO:=hid (show Tr.opV ws l=.tuple #[.string ⟨#[]⟩,.bool false]∧Tr.opR ws l=l by unfold Tr.opV Tr.opR;rw [e];exact⟨rfl,rfl⟩)
  have n2:(kd != 2)=true:=by simp only [bne,h2];rfl
  have n6:(kd != 6)=true:=by simp only [bne,h6];rfl
  clear e
  go_enter Tryz.func184,Tryz.ntmps184
  go_wp2_with ((go_at_call 97;(with_reducible refine(HPk.out _ HPS.out).mono ?_);rintro e w2 ⟨rfl,g2,rfl⟩))
  go_ret2
  exact⟨HO.out.1.symm ▸ rfl,rd_below HR.out bT,by rw [HO.out.2];exact HPS.out.below bT⟩
namespace Tr
open Da
def Iv(lo hi b:Nat):Prop:=lo≤b∧b<hi
theorem Is.fix{w:World}{lo:Nat}{v:Value}{d:D}(h:Is w (fun b=>lo≤b) v d):Is w (Iv lo w.heap.size) v d:=h.keep (Nat.le_refl _) (fun _ _ _ _=>rfl) (fun b h1 h2=>⟨h1,h2⟩)
theorem Is.open{w:World}{lo hi lo':Nat}{v:Value}{d:D}(h:Is w (Iv lo hi) v d)(hl:lo'≤lo):Is w (fun b=>lo'≤b) v d:=h.mono fun _ hb=>Nat.le_trans hl hb.1
theorem Is.wide{w:World}{lo hi lo' hi':Nat}{v:Value}{d:D}(h:Is w (Iv lo hi) v d)(hl:lo'≤lo)(hh:hi≤hi'):Is w (Iv lo' hi') v d:=h.mono fun _ hb=>⟨Nat.le_trans hl hb.1,Nat.lt_of_lt_of_le hb.2 hh⟩
theorem Is.rd{w w':World}{bp lo hi:Nat}{v:Value}{d:D}(h:Is w (Iv lo hi) v d)(hr:Rd w bp w')(hb:bp<lo):Is w' (Iv lo hi) v d:=
 h.keep hr.size (fun b i hP hlt=>World.cell?_of_block (w:=w) (hr.block b hlt (fun e=>by simp at e;have:=hP.1;omega))) (fun _ h _=>h)
theorem set_block(w:World){b b':Nat}(hne:b ≠ b')(i:Nat)(x:Value):(w.setCell ⟨b,i,none⟩ x).heap[b']?=w.heap[b']?:=by simp [World.setCell,Array.getElem?_modify,hne]
theorem Is.set{w:World}{b lo hi:Nat}{v:Value}{d:D}(h:Is w (Iv lo hi) v d)(hb:b<lo∨hi≤b)(i:Nat)(x:Value):Is (w.setCell ⟨b,i,none⟩ x) (Iv lo hi) v d:=
 h.keep (by rw [World.size_setCell];exact Nat.le_refl _) (fun b' j hP hlt=>World.cell?_of_block (w:=w) (set_block w (fun e=>by subst e;have h1:=hP.1;have h2:=hP.2;omega) i x)) (fun _ h _=>h)
theorem Is.alloc{w:World}{P:Nat→Prop}{v:Value}{d:D}(h:Is w P v d)(o:Obj):Is (w.alloc o) P v d:=h.later ((Below.refl _ _).alloc (Nat.le_refl _) o)
theorem Is.more{w:World}{P:Nat→Prop}{v:Value}{d:D}(h:Is w P v d)(g:Came):Is (Go.Proofs.YtlhmkfcbldghfaaGreatDoor.more w g) P v d:=h.later (below_more (Below.refl _ _) (Nat.le_refl _) g)
theorem Is.drew{w:World}{P:Nat→Prop}{v:Value}{d:D}(h:Is w P v d):Is w.drew P v d:=h.later (Below.refl _ _).drew
theorem Is.drewN{w:World}{P:Nat→Prop}{v:Value}{d:D}(h:Is w P v d)(n:Nat):Is (w.drewN n) P v d:=h.later (below_drewN (Below.refl _ _) n)
theorem reads_blk{w:World}{b n size:Nat}{cs:Array Value}(h:Blk w b cs)(hs:cs.size=n * size)(hm:n≤maxLen):Reads w (.slice (some ⟨b,0,none⟩) n n) n size cs.toList:=by
 refine⟨by simpa using hs,.inr ⟨b,0,n,rfl,Nat.le_refl _,hm,h.lt,fun j u hu=>?_⟩⟩
 rw [Nat.zero_add,h.cell j]
 simpa using hu
def exV:Ex→Value→Value
 | .mk k n t o _ p,va => .agg #[.int .i64 k,.int .i64 n,.string ⟨t.toArray⟩,.string ⟨o.toArray⟩,va,.int .i64 p]
def exA:Ex→List Ex
 | .mk _ _ _ _ xs _=>xs
theorem row_ex{w:World}{P:Nat→Prop}{k n p:Int}{t o:List UInt8}{xs:List Ex}{va:Value}(h:Is w P va (.list 6 (exDs xs))) :
  Row w P [.int .i64 k,.int .i64 n,.string ⟨t.toArray⟩,.string ⟨o.toArray⟩,va,.int .i64 p] (exD (.mk k n t o xs p)):=by
 unfold exD
 exact row_cons (.int _) (row_cons (.int _) (row_cons (.str _) (row_cons (.str _) (row_cons h (row_cons (.int _) (row_nil _ _))))))
def VEx(lo:Nat)(w:World)(v:Value)(e:Ex):Prop:=∃ va,v=exV e va∧Is w (fun b=>lo≤b) va (.list 6 (exDs (exA e)))
theorem is_one{w:World}{P:Nat→Prop}{b:Nat}{k n p:Int}{t o:List UInt8}{xs:List Ex}{va:Value}(hB:Blk w b #[.int .i64 k,.int .i64 n,.string ⟨t.toArray⟩,.string ⟨o.toArray⟩,va,.int .i64 p])(hP:P b)(h:Is w P va (.list 6 (exDs xs))) :
  Is w P (.slice (some ⟨b,0,none⟩) 1 1) (.list 6 (exDs [.mk k n t o xs p])):=by
 refine is_of_reads (n:=1) (by simp [exDs]) (fun row hr=>by simp [exDs]at hr;rw [hr,exD_len]) (reads_blk (n:=1) (size:=6) hB rfl (by decide)) (fun b' e=>by simp [Value.ownBlock]at e;subst e;exact hP) (fun b' o' c' e=>by cases e;exact hP) ?_
 simp only [exDs,List.flatten_cons,List.flatten_nil,List.append_nil]
 exact row_ex h
theorem is_two{w:World}{P:Nat→Prop}{b:Nat}{k n p k' n' p':Int}{t o t' o':List UInt8}{xs xs':List Ex}{va va':Value}(hB:Blk w b #[.int .i64 k,.int .i64 n,.string ⟨t.toArray⟩,.string ⟨o.toArray⟩,va,.int .i64 p,.int .i64 k',.int .i64 n',.string ⟨t'.toArray⟩,.string ⟨o'.toArray⟩,va',.int .i64 p'])(hP:P b)
  (h:Is w P va (.list 6 (exDs xs))) (h':Is w P va' (.list 6 (exDs xs'))):Is w P (.slice (some ⟨b,0,none⟩) 2 2) (.list 6 (exDs [.mk k n t o xs p,.mk k' n' t' o' xs' p'])):=by
 refine is_of_reads (n:=2) (by simp [exDs]) (fun row hr=>by simp [exDs]at hr;rcases hr with rfl|rfl <;> rw [exD_len]) (reads_blk (n:=2) (size:=6) hB rfl (by decide)) (fun b' e=>by simp [Value.ownBlock]at e;subst e;exact hP) (fun b' o' c' e=>by cases e;exact hP) ?_
 simp only [exDs,List.flatten_cons,List.flatten_nil,List.append_nil]
 exact row_app (row_ex h) (row_ex h')
end Tr
theorem binary_any(op:List UInt8)(k n p k' n' p':Int)(t o t' o':List UInt8)(va va':Value)(w:World) :
  Calls Tryz.prog 185 #[.string ⟨op.toArray⟩,.agg #[.int .i64 k,.int .i64 n,.string ⟨t.toArray⟩,.string ⟨o.toArray⟩,va,.int .i64 p],.agg #[.int .i64 k',.int .i64 n',.string ⟨t'.toArray⟩,.string ⟨o'.toArray⟩,va',.int .i64 p']] w fun e w' =>
   (∃ b,e=.returned (.agg #[.int .i64 14,.int .i64 0,.string ⟨#[]⟩,.string ⟨op.toArray⟩,.slice (some ⟨b,0,none⟩) 2 2,.int .i64 p])∧w.heap.size≤b∧Tr.Blk w' b #[.int .i64 k,.int .i64 n,.string ⟨t.toArray⟩,.string ⟨o.toArray⟩,va,.int .i64 p,.int .i64 k',.int .i64 n',.string ⟨t'.toArray⟩,.string ⟨o'.toArray⟩,va',.int .i64 p'])∧Below w.heap.size w w':=by
 go_enter Tryz.func185,Tryz.ntmps185
 go_wp2
 refine bodyPost_ret (v:=.agg #[.int .i64 14,.int .i64 0,.string ⟨#[]⟩,.string ⟨op.toArray⟩,.slice (some ⟨w.heap.size+1+1+1,0,none⟩) 2 2,.int .i64 p]) (by simp [results,Tryz.results185,go_sem]) rfl ⟨⟨_,rfl,by omega,Tr.blk_at (by simp) _ _⟩,bT⟩
theorem laidOutS:laidOutB Tryz.prog=true:=by kernel_rfl
theorem start_law:Maps.Keyed Tryz.prog 113:=Maps.Keyed.of_law (deep_law_laid laidOutS (m:=100) (by decide) (of_decide_eq_true (by kernel_rfl)) (by kernel_rfl) (by kernel_rfl))
namespace Tr
theorem skt:Tryz.prog.keyType 113=true:=by kernel_rfl
theorem skc:Tryz.prog.cellsOf 113=2:=by kernel_rfl
theorem skc3:Tryz.prog.cellsOf 3=1:=by kernel_rfl
theorem skc9:Tryz.prog.cellsOf 9=1:=by kernel_rfl
theorem sks:∃ n,Tryz.prog.types.size+1=n+2:=by
 have h:2≤Tryz.prog.types.size:=of_decide_eq_true (by kernel_rfl)
 exact⟨Tryz.prog.types.size - 1,by omega⟩
theorem sk_key(kd:Int)(w:List UInt8)(h0:0≤kd)(h1:kd≤6)(hw:w.length≤100000):∃ l,keyOf Tryz.prog 113 (sk kd w)=some l:=by
 obtain⟨n,hn⟩:=sks
 have ha:(Lit.int .i64 kd).wf=true:=WalkArith.wf_i64 (by omega)
 have hs:(⟨w.toArray⟩:ByteArray).size≤maxLen:=by show w.toArray.size≤_;simp [maxLen];omega
 unfold keyOf sk
 rw [Tryz.underlying113,hn]
 simp only [skt,Value.formed,Tryz.underlying113,skc,Program.keyLits,Value.cells]
 simp [Tryz.underlying3,Tryz.underlying9,skc3,skc9,ha,hs]
theorem sk_inj{kd kd':Int}{w w':List UInt8}(h:sk kd w=sk kd' w'):kd=kd'∧w=w':=by
 simpa [sk]using h
theorem beg_none{es:Array MapEntry}(ho:BegOk es){kd:Int}{w:List UInt8}(h:∀ e∈es.toList,e.key ≠ sk kd w):begV kd w=0:=by
 have hm:∀(kd':Int) (w':List UInt8),(kd',w')∈begKeys→¬(kd=kd'∧w=w'):=fun kd' w' hm ⟨h1,h2⟩=>by
  obtain⟨e,he,hk⟩:=ho.2 _ hm
  exact h e he (by rw [hk,h1,h2])
 have m1:=hm 1 [] (by simp [begKeys])
 have m2:=hm 3 [] (by simp [begKeys])
 have m3:=hm 4 [] (by simp [begKeys])
 have m4:=hm 5 [] (by simp [begKeys])
 have m5:=hm 2 kNIL (by simp [begKeys])
 have m6:=hm 2 kTRUE (by simp [begKeys])
 have m7:=hm 2 kFALSE (by simp [begKeys])
 have m8:=hm 6 [123] (by simp [begKeys])
 have m9:=hm 6 [40] (by simp [begKeys])
 have m10:=hm 6 [126] (by simp [begKeys])
 have m11:=hm 6 [43] (by simp [begKeys])
 have m12:=hm 6 [45] (by simp [begKeys])
 unfold begV
 rw [if_neg m1,if_neg,if_neg,if_neg,if_neg]
 ·rintro⟨h1,h2|h2⟩
  ·exact m11 ⟨h1,h2⟩
  ·exact m12 ⟨h1,h2⟩
 ·rintro⟨h1,h2|h2|h2⟩
  ·exact m8 ⟨h1,h2⟩
  ·exact m9 ⟨h1,h2⟩
  ·exact m10 ⟨h1,h2⟩
 ·rintro⟨h1,h2|h2|h2⟩
  ·exact m5 ⟨h1,h2⟩
  ·exact m6 ⟨h1,h2⟩
  ·exact m7 ⟨h1,h2⟩
 ·rintro⟨h1|h1|h1,h2⟩
  ·exact m2 ⟨h1,h2⟩
  ·exact m3 ⟨h1,h2⟩
  ·exact m4 ⟨h1,h2⟩
theorem run_beg(W:World)(bm:Nat)(es:Array MapEntry)(ho:BegOk es)(kd:Int)(w:List UInt8)(hb:W.heap[bm]?=some (.map es 12))(h0:0≤kd)(h1:kd≤6)(hw:w.length≤100000) :
  (Instr.lookup 114 (.map (some bm)) (sk kd w) false).run Tryz.prog W=.ok (.int .i64 (begV kd w)) W:=by
 obtain⟨l,hl⟩:=sk_key kd w h0 h1 hw
 have hc:=fun em=>start_law.check W em hl
 have hz:(zeroValue 3).run Tryz.prog W=.ok (.int .i64 0) W:=by kernel_rfl
 have hes:∀ e∈es.toList,∃ l,keyOf Tryz.prog 113 e.key=some l:=fun e he=>by
  obtain⟨kd',w',a,b,c,hk,_⟩:=ho.1 e he
  rw [hk];exact sk_key kd' w' a b c
 rcases start_law.find W hl es.toList hes with⟨h2,h3⟩|⟨j,e,h2,h3,h4⟩
 ·rw [beg_none ho h3]
  simp [Instr.lookup,run_underlying Tryz.underlying114,MapKept.run_getObj_map hb,hc,h2,hz]
 ·have hmem:e∈es.toList:=List.mem_of_getElem? h3
  obtain⟨kd',w',_,_,_,hk,hv⟩:=ho.1 e hmem
  rw [h4]at hk
  obtain⟨rfl,rfl⟩:=sk_inj hk
  rw [← hv]
  simp [Instr.lookup,run_underlying Tryz.underlying114,MapKept.run_getObj_map hb,hc,h2]
theorem beg_start{en:Int}{l:List Tok}{kd n q:Int}{t2:List UInt8}(h:peek en l=(kd,t2,n,q)):startT l=begV kd (if kd=2∨kd=6 then t2 else []):=by
 cases l with
 | nil=>simp [peek]at h;obtain⟨rfl,rfl,_⟩:=h;rfl
 | cons t l =>
  simp only [peek]at h
  subst h
  unfold startT begV
  by_cases h1:kd=1
  ·subst h1;rfl
  ·by_cases h2:kd=2
   ·subst h2;simp
   ·by_cases h6:kd=6
    ·subst h6;simp
    ·simp [h1,h2,h6]
end Tr
theorem start_any(w:World)(B bp:Nat)(en:Int)(l:List Tr.Tok)(hp:Tr.PS w B bp en l) :
  Calls Tryz.prog 221 #[.pointer (some ⟨bp,0,none⟩)] w fun e w'=>e=.returned (.int .i64 (Tr.startT l))∧∃ g,w'=more w g:=by
 obtain⟨t,ht⟩:∃ t,Tr.peek en l=t:=⟨_,rfl⟩
 obtain⟨kd,t2,m,q⟩:=t
 have HPk:=hid (fun w hp=>peek_is w B bp en l kd m q t2 hp ht)
 have HPS:=hid hp
 have HS:=hid (Tr.beg_start ht)
 have hk:=Tr.kd_cases (kd,t2,m,q)
 obtain⟨bm,es,c3,hlt,hmp,hbm,hbo⟩:=hp.map
 have HBo:=hid hbo
 have HMP:=hid hmp
 have hg:0≤kd∧kd≤6∧t2.length≤100000:=by
  cases l with
  | nil=>simp [Tr.peek]at ht;obtain⟨rfl,rfl,_⟩:=ht;exact⟨by decide,by decide,by decide⟩
  | cons t l=>simp only [Tr.peek]at ht;subst ht;exact hp.good _ (List.mem_cons_self ..)
 have HG:=hid hg
 clear hp ht hmp hg hbo
 simp only at hk
 rcases hk with hk|hk|⟨h2,h6⟩
 ·subst hk
  have HS3:=hid (show Tr.startT l=_ from HS.out)
  rw [if_pos (by decide)]at HS3
  go_enter Tryz.func221,Tryz.ntmps221
  go_wp2_with (go_at_call 97;(with_reducible refine(HPk.out _ HPS.out).mono ?_);rintro e w2 ⟨rfl,g2,rfl⟩)
  have hlk:=fun n=>Tr.run_beg (((more w g2).alloc (.cells #[.int .i64 2,.string ⟨t2.toArray⟩,.int .i64 m,.int .i64 q] 40)).drewN n) bm es HBo.out 2 t2 (by rw [← HMP.out];exact Below.block (w:=w) (B:=w.heap.size) bT bm hbm) (by decide) (by decide) HG.out.2.2
  unfold Tr.sk at hlk
  go_quiet (fail)
  go_wp2
  go_ret
  exact⟨by rw [HS3.out];rfl,more_of_below bT⟩
 ·subst hk
  have HS3:=hid (show Tr.startT l=_ from HS.out)
  rw [if_pos (by decide)]at HS3
  go_enter Tryz.func221,Tryz.ntmps221
  go_wp2_with (go_at_call 97;(with_reducible refine(HPk.out _ HPS.out).mono ?_);rintro e w2 ⟨rfl,g2,rfl⟩)
  have hlk:=fun n=>Tr.run_beg (((more w g2).alloc (.cells #[.int .i64 6,.string ⟨t2.toArray⟩,.int .i64 m,.int .i64 q] 40)).drewN n) bm es HBo.out 6 t2 (by rw [← HMP.out];exact Below.block (w:=w) (B:=w.heap.size) bT bm hbm) (by decide) (by decide) HG.out.2.2
  unfold Tr.sk at hlk
  go_quiet (fail)
  go_wp2
  go_ret
  exact⟨by rw [HS3.out];rfl,more_of_below bT⟩
 ·have n2:(kd != 2)=true:=by simp only [bne,h2];rfl
  have n6:(kd != 6)=true:=by simp only [bne,h6];rfl
  have HS3:=hid (show Tr.startT l=_ from HS.out)
  have hno:¬(kd=2∨kd=6):=by
   rintro(h|h)
   ·rw [beq_eq_false_iff_ne]at h2;exact h2 h
   ·rw [beq_eq_false_iff_ne]at h6;exact h6 h
  rw [if_neg hno]at HS3
  clear hno
  go_enter Tryz.func221,Tryz.ntmps221
  go_wp2_with (go_at_call 97;(with_reducible refine(HPk.out _ HPS.out).mono ?_);rintro e w2 ⟨rfl,g2,rfl⟩)
  have hlk:=fun n=>Tr.run_beg (((more w g2).alloc (.cells #[.int .i64 kd,.string ⟨#[]⟩,.int .i64 m,.int .i64 q] 40)).drewN n) bm es HBo.out kd [] (by rw [← HMP.out];exact Below.block (w:=w) (B:=w.heap.size) bT bm hbm) HG.out.1 HG.out.2.1 (by decide)
  unfold Tr.sk at hlk
  go_quiet (fail)
  go_wp2
  go_ret
  exact⟨by rw [HS3.out];rfl,more_of_below bT⟩
end Go.Proofs.YtlhmkfcbldghfaaGreatDoor
