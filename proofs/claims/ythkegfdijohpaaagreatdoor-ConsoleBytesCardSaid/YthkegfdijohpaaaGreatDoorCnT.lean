/- The walks of what the waking call of the console does with a farm: a file of one byte;an answer;three lines. Conditions: the farm is new;the library's variables are as they were laid. -/
import Derived.Test.YthkegfdijohpaaaGreatDoorCnR
namespace Go.Proofs.YthkegfdijohpaaaGreatDoor
set_option linter.all false
open Go.Lib (hid)
set_option maxRecDepth 1000000
set_option maxHeartbeats 16000000
open Go.RowKit
theorem Cn.Oth.trans{w X Y:World}{h:Nat}(H:Cn.Oth w X h)(G:Cn.Oth X Y h):Cn.Oth w Y h:=by
 obtain⟨h1,h2,h3,h4,h5⟩:=H
 obtain⟨g1,g2,g3,g4,g5⟩:=G
 exact⟨by omega,g2.trans h2,g3.trans h3,g4.trans h4,fun k hk hne=>(g5 k (by omega) hne).trans (h5 k hk hne)⟩
theorem Cn.Oth.more{w X:World}{h:Nat}(H:Cn.Oth w X h)(g:Came):Cn.Oth w (more X g) h:=H.trans (Cn.oth_of (below_more (Below.refl _ _) (Nat.le_refl _) g))
theorem Cn.Oth.setAt{w W:World}{h b i:Nat}{v:Value}(H:Cn.Oth w W h)(hb:w.heap.size≤b):Cn.Oth w (W.setCell ⟨b,i,none⟩ v) h:=by
 obtain⟨h1,h2,h3,h4,h5⟩:=H
 have hsz:(W.setCell ⟨b,i,none⟩ v).heap.size=W.heap.size:=Array.size_modify ..
 exact⟨by omega,h2,h3,h4,fun k hk hne=>(heap_setCell_other _ _ _ _ (show k ≠ b by omega)).trans (h5 k hk hne)⟩
theorem Cn.Oth.at{w W:World}{h k:Nat}{o:Obj}(H:Cn.Oth w W h)(hk:w.heap[k]?=some o)(hne:k ≠ h):W.heap[k]?=some o:=(H.2.2.2.2 k (Array.getElem?_eq_some_iff.1 hk).1 hne).trans hk
theorem Cn.nine{W:World}{b:Nat}{t:TypeId}(h:W.heap[b]?=some (.cells #[.int .i64 0,.int .i64 0,.int .u32 0,.slice none 0 0,.int .i64 0,.int .i64 0,.string ⟨#[]⟩,.int .i64 0,.int .i64 0] t (0,0)))(v0 v1 v2 v3 v4 v5 v6 v7 v8:Value):(((((((((W.setCell ⟨b,0,none⟩ v0).setCell ⟨b,1,none⟩ v1).setCell ⟨b,2,none⟩ v2).setCell ⟨b,3,none⟩ v3).setCell ⟨b,4,none⟩ v4).setCell ⟨b,5,none⟩ v5).setCell ⟨b,6,none⟩ v6).setCell ⟨b,7,none⟩ v7).setCell ⟨b,8,none⟩ v8).heap[b]?=some (.cells #[v0,v1,v2,v3,v4,v5,v6,v7,v8] t (0,0)):=by
 have h0:(W.setCell ⟨b,0,none⟩ v0).heap[b]?=some (.cells #[v0,.int .i64 0,.int .u32 0,.slice none 0 0,.int .i64 0,.int .i64 0,.string ⟨#[]⟩,.int .i64 0,.int .i64 0] t (0,0)):=(heap_setCell_same _ b 0 _ t v0 h).trans rfl
 have h1:((W.setCell ⟨b,0,none⟩ v0).setCell ⟨b,1,none⟩ v1).heap[b]?=some (.cells #[v0,v1,.int .u32 0,.slice none 0 0,.int .i64 0,.int .i64 0,.string ⟨#[]⟩,.int .i64 0,.int .i64 0] t (0,0)):=(heap_setCell_same _ b 1 _ t v1 h0).trans rfl
 have h2:(((W.setCell ⟨b,0,none⟩ v0).setCell ⟨b,1,none⟩ v1).setCell ⟨b,2,none⟩ v2).heap[b]?=some (.cells #[v0,v1,v2,.slice none 0 0,.int .i64 0,.int .i64 0,.string ⟨#[]⟩,.int .i64 0,.int .i64 0] t (0,0)):=(heap_setCell_same _ b 2 _ t v2 h1).trans rfl
 have h3:((((W.setCell ⟨b,0,none⟩ v0).setCell ⟨b,1,none⟩ v1).setCell ⟨b,2,none⟩ v2).setCell ⟨b,3,none⟩ v3).heap[b]?=some (.cells #[v0,v1,v2,v3,.int .i64 0,.int .i64 0,.string ⟨#[]⟩,.int .i64 0,.int .i64 0] t (0,0)):=(heap_setCell_same _ b 3 _ t v3 h2).trans rfl
 have h4:(((((W.setCell ⟨b,0,none⟩ v0).setCell ⟨b,1,none⟩ v1).setCell ⟨b,2,none⟩ v2).setCell ⟨b,3,none⟩ v3).setCell ⟨b,4,none⟩ v4).heap[b]?=some (.cells #[v0,v1,v2,v3,v4,.int .i64 0,.string ⟨#[]⟩,.int .i64 0,.int .i64 0] t (0,0)):=(heap_setCell_same _ b 4 _ t v4 h3).trans rfl
 have h5:((((((W.setCell ⟨b,0,none⟩ v0).setCell ⟨b,1,none⟩ v1).setCell ⟨b,2,none⟩ v2).setCell ⟨b,3,none⟩ v3).setCell ⟨b,4,none⟩ v4).setCell ⟨b,5,none⟩ v5).heap[b]?=some (.cells #[v0,v1,v2,v3,v4,v5,.string ⟨#[]⟩,.int .i64 0,.int .i64 0] t (0,0)):=(heap_setCell_same _ b 5 _ t v5 h4).trans rfl
 have h6:(((((((W.setCell ⟨b,0,none⟩ v0).setCell ⟨b,1,none⟩ v1).setCell ⟨b,2,none⟩ v2).setCell ⟨b,3,none⟩ v3).setCell ⟨b,4,none⟩ v4).setCell ⟨b,5,none⟩ v5).setCell ⟨b,6,none⟩ v6).heap[b]?=some (.cells #[v0,v1,v2,v3,v4,v5,v6,.int .i64 0,.int .i64 0] t (0,0)):=(heap_setCell_same _ b 6 _ t v6 h5).trans rfl
 have h7:((((((((W.setCell ⟨b,0,none⟩ v0).setCell ⟨b,1,none⟩ v1).setCell ⟨b,2,none⟩ v2).setCell ⟨b,3,none⟩ v3).setCell ⟨b,4,none⟩ v4).setCell ⟨b,5,none⟩ v5).setCell ⟨b,6,none⟩ v6).setCell ⟨b,7,none⟩ v7).heap[b]?=some (.cells #[v0,v1,v2,v3,v4,v5,v6,v7,.int .i64 0] t (0,0)):=(heap_setCell_same _ b 7 _ t v7 h6).trans rfl
 have h8:(((((((((W.setCell ⟨b,0,none⟩ v0).setCell ⟨b,1,none⟩ v1).setCell ⟨b,2,none⟩ v2).setCell ⟨b,3,none⟩ v3).setCell ⟨b,4,none⟩ v4).setCell ⟨b,5,none⟩ v5).setCell ⟨b,6,none⟩ v6).setCell ⟨b,7,none⟩ v7).setCell ⟨b,8,none⟩ v8).heap[b]?=some (.cells #[v0,v1,v2,v3,v4,v5,v6,v7,v8] t (0,0)):=(heap_setCell_same _ b 8 _ t v8 h7).trans rfl
 exact h8
theorem Cn.nine_oth{w W:World}{h b:Nat}(H:Cn.Oth w W h)(hb:w.heap.size≤b)(v0 v1 v2 v3 v4 v5 v6 v7 v8:Value):Cn.Oth w (((((((((W.setCell ⟨b,0,none⟩ v0).setCell ⟨b,1,none⟩ v1).setCell ⟨b,2,none⟩ v2).setCell ⟨b,3,none⟩ v3).setCell ⟨b,4,none⟩ v4).setCell ⟨b,5,none⟩ v5).setCell ⟨b,6,none⟩ v6).setCell ⟨b,7,none⟩ v7).setCell ⟨b,8,none⟩ v8) h:=by
 have o0:Cn.Oth w (W.setCell ⟨b,0,none⟩ v0) h:=H.setAt hb
 have o1:Cn.Oth w ((W.setCell ⟨b,0,none⟩ v0).setCell ⟨b,1,none⟩ v1) h:=o0.setAt hb
 have o2:Cn.Oth w (((W.setCell ⟨b,0,none⟩ v0).setCell ⟨b,1,none⟩ v1).setCell ⟨b,2,none⟩ v2) h:=o1.setAt hb
 have o3:Cn.Oth w ((((W.setCell ⟨b,0,none⟩ v0).setCell ⟨b,1,none⟩ v1).setCell ⟨b,2,none⟩ v2).setCell ⟨b,3,none⟩ v3) h:=o2.setAt hb
 have o4:Cn.Oth w (((((W.setCell ⟨b,0,none⟩ v0).setCell ⟨b,1,none⟩ v1).setCell ⟨b,2,none⟩ v2).setCell ⟨b,3,none⟩ v3).setCell ⟨b,4,none⟩ v4) h:=o3.setAt hb
 have o5:Cn.Oth w ((((((W.setCell ⟨b,0,none⟩ v0).setCell ⟨b,1,none⟩ v1).setCell ⟨b,2,none⟩ v2).setCell ⟨b,3,none⟩ v3).setCell ⟨b,4,none⟩ v4).setCell ⟨b,5,none⟩ v5) h:=o4.setAt hb
 have o6:Cn.Oth w (((((((W.setCell ⟨b,0,none⟩ v0).setCell ⟨b,1,none⟩ v1).setCell ⟨b,2,none⟩ v2).setCell ⟨b,3,none⟩ v3).setCell ⟨b,4,none⟩ v4).setCell ⟨b,5,none⟩ v5).setCell ⟨b,6,none⟩ v6) h:=o5.setAt hb
 have o7:Cn.Oth w ((((((((W.setCell ⟨b,0,none⟩ v0).setCell ⟨b,1,none⟩ v1).setCell ⟨b,2,none⟩ v2).setCell ⟨b,3,none⟩ v3).setCell ⟨b,4,none⟩ v4).setCell ⟨b,5,none⟩ v5).setCell ⟨b,6,none⟩ v6).setCell ⟨b,7,none⟩ v7) h:=o6.setAt hb
 have o8:Cn.Oth w (((((((((W.setCell ⟨b,0,none⟩ v0).setCell ⟨b,1,none⟩ v1).setCell ⟨b,2,none⟩ v2).setCell ⟨b,3,none⟩ v3).setCell ⟨b,4,none⟩ v4).setCell ⟨b,5,none⟩ v5).setCell ⟨b,6,none⟩ v6).setCell ⟨b,7,none⟩ v7).setCell ⟨b,8,none⟩ v8) h:=o7.setAt hb
 exact o8
theorem fwrite_amod(h:Nat)(w:World)(H:Cn.Fs w h):Calls Tryz.prog 43 #[.pointer (some ⟨h+1,0,none⟩),.agg #[.int .i64 1,.string ⟨#[65,46,77,111,100]⟩,.string ⟨#[0]⟩,.int .i64 0,.int .i64 0,.int .i64 0]] w fun e w'=>e=.returned (Cn.ans 0)∧Cn.Oth w w' h:=by
 have hlt:=H.lt
 have HP:=hid (fun h u hs=>put_amod h u hs)
 have HS:=hid H.s
 have HF:=hid H.f
 clear H
 go_enter Tryz.func43,Tryz.ntmps43
 go_wp2
 refine wp_region_still_tail 8 (by kernel_rfl) (by kernel_rfl) ?_
 simp only [List.take_succ_cons,List.take_zero,List.drop_succ_cons,List.drop_zero]
 generalize hW:World.alloc (World.alloc w _) _=W0
 have hb0:Below w.heap.size w W0:=by rw [← hW];exact bT
 have hn0:W0.heap[w.heap.size+1]?=some (.cells #[.int .i64 0,.int .i64 0,.int .u32 0,.slice none 0 0,.int .i64 0,.int .i64 0,.string ⟨#[]⟩,.int .i64 0,.int .i64 0] 63 (0,0)):=by rw [← hW];exact heap_alloc2_new w _ _
 have hc0:W0.heap[w.heap.size]?=some (.cells #[.int .i64 1,.string ⟨#[65,46,77,111,100]⟩,.string ⟨#[0]⟩,.int .i64 0,.int .i64 0,.int .i64 0] 26 (0,0)):=by rw [← hW];exact heap_alloc2_old w _ _
 clear hW
 obtain⟨W1,hW1⟩:∃ W1,W1=({ W0 with drawn:=W0.drawn+1 }:World):=⟨_,rfl⟩
 have hb1:Below w.heap.size w W1:=by rw [hW1];exact hb0.drew
 have hn1:W1.heap[w.heap.size+1]?=some (.cells #[.int .i64 0,.int .i64 0,.int .u32 0,.slice none 0 0,.int .i64 0,.int .i64 0,.string ⟨#[]⟩,.int .i64 0,.int .i64 0] 63 (0,0)):=by rw [hW1];exact hn0
 have hc1:W1.heap[w.heap.size]?=some (.cells #[.int .i64 1,.string ⟨#[65,46,77,111,100]⟩,.string ⟨#[0]⟩,.int .i64 0,.int .i64 0,.int .i64 0] 26 (0,0)):=by rw [hW1];exact hc0
 rw [← hW1]
 clear hW1 hb0 hn0 hc0
 have hs1:W1.heap[h]?=some (.cells #[.map none] 101 (0,0)):=(hb1.block h (by omega)).trans HS.out
 have hf1:=(hb1.block (h+1) (by omega)).trans HF.out
 have f0:W1.cell? ⟨h+1,0,none⟩=some (.pointer (some ⟨h,0,none⟩)):=cell_of_row _ _ _ _ _ _ hf1
 have n1:W1.cell? ⟨w.heap.size,1,none⟩=some (.string ⟨#[65,46,77,111,100]⟩):=cell_of_row _ _ _ _ _ _ hc1
 have n2:W1.cell? ⟨w.heap.size,2,none⟩=some (.string ⟨#[0]⟩):=cell_of_row _ _ _ _ _ _ hc1
 have HN1:=hid hn1
 have HS1:=hid hs1
 have HB1:=hid (Cn.oth_of (h:=h) hb1)
 have hl1:w.heap.size+1<W1.heap.size:=(Array.getElem?_eq_some_iff.1 hn1).1
 clear hn1 hs1 hf1 hc1 hb1 HF HS
 repeat still_step
 refine wpStill_nil ?_
 go_wp2_with (first|(go_at_call 60;(with_reducible refine(HP.out h _ HS1.out).mono ?_);rintro e W2 ⟨rfl,HO⟩;have hn2:=HO.at HN1.out (show w.heap.size+1 ≠ h by omega);have hl2:w.heap.size+1<W2.heap.size:=(Array.getElem?_eq_some_iff.1 hn2).1;have hc2:∀ j:Nat,W2.cell? ⟨w.heap.size+1,j,none⟩=(#[.int .i64 0,.int .i64 0,.int .u32 0,.slice none 0 0,.int .i64 0,.int .i64 0,.string ⟨#[]⟩,.int .i64 0,.int .i64 0]:Array Value)[j]?:=(fun j=>cell_of_row _ _ _ _ _ _ hn2);have hz2:∀ j:Nat,W2.frozen? ⟨w.heap.size+1,j,none⟩=false:=(fun j=>frozen_of_row _ _ _ _ _ hn2);have HO2:=hid (HB1.out.trans HO);have HN2:=hid hn2;clear hn2 HO)|(go_at_call 48;(with_reducible refine(refused_any _ _).mono ?_);rintro e w3 ⟨rfl,g3,rfl⟩;simp only [Cn.ans]))
 have hn3:=Cn.nine HN2.out (.int .i64 0) (.int .i64 0) (.int .u32 0) (.slice none 0 0) (.int .i64 0) (.int .i64 0) (.string ⟨#[]⟩) (.int .i64 0) (.int .i64 0)
 have hn4:=(more_block _ g3 _ (Array.getElem?_eq_some_iff.1 hn3).1).trans hn3
 refine bodyPost_ret (results_cell_row rfl _ _ (w.heap.size+1) 63 _ (0,0) _ rfl hn4 Tryz.underlying63 rfl (by kernel_rfl)) rfl ?_
 exact⟨rfl,(Cn.nine_oth HO2.out (by omega) _ _ _ _ _ _ _ _ _).more g3⟩
theorem fdo_write(h:Nat)(w:World)(H:Cn.Fs w h):Calls Tryz.prog 28 #[.pointer (some ⟨h+1,0,none⟩),.agg #[.int .i64 1,.string ⟨#[65,46,77,111,100]⟩,.string ⟨#[0]⟩,.int .i64 0,.int .i64 0,.int .i64 0]] w fun e w'=>e=.returned (Cn.ans 0)∧Cn.Oth w w' h:=by
 have hlt:=H.lt
 have HW:=hid (fun h u H=>fwrite_amod h u H)
 have HH:=hid H
 clear H
 have hmk:∀ W:World,(Instr.makeMap 92 none).run Tryz.prog W=.ok (.map (some W.heap.size)) (W.alloc (.map #[] 0)):=fun _=>rfl
 go_enter Tryz.func28,Tryz.ntmps28
 go_wp2_with (first|((with_reducible refine wpList_insert_last ?_ Tryz.underlying92 Tryz.underlying3 ?_ ?_ ?_);(focus(first|rfl|(show Value.map (some (w.heap.size+1+1))=_;rw [Cn.szl,Cn.szl])));(focus rfl);(focus rfl);simp only [Act.eval])|((with_reducible refine wpList_look ?_ ?_ ?_ (last_map _ _ _) Tryz.underlying92 Tryz.underlying3 ?_ ?_ ?_);rotate_left 2;(focus(first|rfl|(show Value.map (some (w.heap.size+1+1))=_;rw [Cn.szl,Cn.szl])));(focus rfl);(focus rfl))|(go_at_call 43;generalize hX:World.alloc (World.alloc (World.alloc w _) _) _=X;have hbx:Below w.heap.size w X:=(by rw [← hX];exact bT);have hnx:X.heap[w.heap.size+1]?=some (.cells #[.int .i64 0,.int .i64 0,.int .u32 0,.slice none 0 0,.int .i64 0,.int .i64 0,.string ⟨#[]⟩,.int .i64 0,.int .i64 0] 63 (0,0)):=(by rw [← hX,(MapKept.heap_alloc _ _).2 _ (by rw [Cn.szl,Cn.szl];omega)];exact heap_alloc2_new w _ _);clear hX;(with_reducible refine(HW.out h X (HH.out.keep hbx (by omega))).mono ?_);rintro e W2 ⟨rfl,HO⟩;simp only [Cn.ans];have hn2:=HO.at hnx (show w.heap.size+1 ≠ h by omega);have hl2:w.heap.size+1<W2.heap.size:=(Array.getElem?_eq_some_iff.1 hn2).1;have hc2:∀ j:Nat,W2.cell? ⟨w.heap.size+1,j,none⟩=(#[.int .i64 0,.int .i64 0,.int .u32 0,.slice none 0 0,.int .i64 0,.int .i64 0,.string ⟨#[]⟩,.int .i64 0,.int .i64 0]:Array Value)[j]?:=(fun j=>cell_of_row _ _ _ _ _ _ hn2);have hz2:∀ j:Nat,W2.frozen? ⟨w.heap.size+1,j,none⟩=false:=(fun j=>frozen_of_row _ _ _ _ _ hn2);have HO2:=hid ((Cn.oth_of hbx).trans HO);have HN2:=hid hn2;clear hn2 HO hnx hbx))
 have hn3:=Cn.nine HN2.out (.int .i64 0) (.int .i64 0) (.int .u32 0) (.slice none 0 0) (.int .i64 0) (.int .i64 0) (.string ⟨#[]⟩) (.int .i64 0) (.int .i64 0)
 refine bodyPost_ret (results_cell_row rfl _ _ (w.heap.size+1) 63 _ (0,0) _ rfl hn3 Tryz.underlying63 rfl (by kernel_rfl)) rfl ?_
 exact⟨rfl,Cn.nine_oth HO2.out (by omega) _ _ _ _ _ _ _ _ _⟩
end Go.Proofs.YthkegfdijohpaaaGreatDoor
