/- The walk of tree's parser's worded. Conditions: the parser's block is as it is made;shorter texts are read as they should be. -/
import Derived.Test.YtlhmkfcbldghfaaGreatDoorTtY
namespace Go.Proofs.YtlhmkfcbldghfaaGreatDoor
set_option linter.all false
open Go.Lib (hid)
set_option maxRecDepth 1000000
set_option maxHeartbeats 16000000
open Go.RowKit
open Tr (blk_new factorP rd_below rd_refl rd_set rd_set6 rd_trans)
namespace Tr
open Da
theorem vex_nil(lo:Nat)(w:World)(k n p:Int)(t o:List UInt8):VEx lo w (.agg #[.int .i64 k,.int .i64 n,.string ⟨t.toArray⟩,.string ⟨o.toArray⟩,.slice none 0 0,.int .i64 p]) (.mk k n t o [] p):=
 ⟨.slice none 0 0,rfl,.nil _ _ _ (by decide)⟩
theorem skip_yes(en:Int)(l:List Tok)(tx:List UInt8)(B bp:Nat)(h:isS tx l=true)(w:World)(hp:PS w B bp en l) :
  Calls Tryz.prog 98 #[.pointer (some ⟨bp,0,none⟩),.string ⟨tx.toArray⟩] w fun e w'=>e=.returned (.tuple #[])∧Rd w bp w'∧PS w' B bp en l.tail:=by
 refine(skip_any w B bp en l tx hp).mono fun e w' ⟨hr,hh⟩=>?_
 rcases hh with⟨a',l',v,h1,h2,h3,h4⟩|⟨q,h1,_⟩
 ·unfold skip at h1
  rw [h]at h1
  simp only [if_true,R.ok.injEq]at h1
  obtain⟨_,rfl⟩:=h1
  exact⟨by rw [h3,h4],hr,h2⟩
 ·unfold skip at h1
  rw [h]at h1
  cases h1
theorem skip_not(en:Int)(l:List Tok)(tx:List UInt8)(B bp:Nat)(h:isS tx l=false)(w:World)(hp:PS w B bp en l) :
  Calls Tryz.prog 98 #[.pointer (some ⟨bp,0,none⟩),.string ⟨tx.toArray⟩] w fun e w'=>e=gone (posOf en l)∧Rd w bp w':=by
 refine(skip_any w B bp en l tx hp).mono fun e w' ⟨hr,hh⟩=>?_
 rcases hh with⟨a',l',v,h1,h2,h3,h4⟩|⟨q,h1,h2⟩
 ·unfold skip at h1
  rw [h]at h1
  cases h1
 ·unfold skip at h1
  rw [h]at h1
  simp only [Bool.false_eq_true,if_false,R.no.injEq]at h1
  subst h1
  exact⟨h2,hr⟩
theorem is_yes(en:Int)(l:List Tok)(tx:List UInt8)(B bp:Nat)(h:isS tx l=true)(w:World)(hp:PS w B bp en l) :
  Calls Tryz.prog 102 #[.pointer (some ⟨bp,0,none⟩),.string ⟨tx.toArray⟩] w fun e w'=>e=.returned (.bool true)∧∃ g,w'=more w g:=by
 have:=is_any w B bp en l tx hp
 rw [h]at this
 exact this
theorem is_not(en:Int)(l:List Tok)(tx:List UInt8)(B bp:Nat)(h:isS tx l=false)(w:World)(hp:PS w B bp en l) :
  Calls Tryz.prog 102 #[.pointer (some ⟨bp,0,none⟩),.string ⟨tx.toArray⟩] w fun e w'=>e=.returned (.bool false)∧∃ g,w'=more w g:=by
 have:=is_any w B bp en l tx hp
 rw [h]at this
 exact this
theorem cf_ex{en:Int}{n:Nat}{r:Rc}(h:CE en (n+1) r):CF 147 en n r.ex:=fun w B bp l hl hp=>h.ex w B bp l (by omega) hp
theorem labels_of{en:Int}{n:Nat}{r:Rc}(h:CE en n r)(w:World)(B bp:Nat)(l:List Tok)(hl:l.length<n)(hp:PS w B bp en l) :
  Calls Tryz.prog 222 #[.pointer (some ⟨bp,0,none⟩)] w (Res w B bp en (labelsP r.ex l) (VExs w.heap.size)):=by
 obtain⟨m,rfl⟩:∃ m,n=m+1:=⟨n - 1,by omega⟩
 exact labels_any en m r.ex (cf_ex h) h.rg.ex w B bp l (by omega) hp
end Tr
theorem worded_cu(en:Int)(n:Nat)(r:Tr.Rc)(hCE:Tr.CE en n r)(v p:Int)(w:World)(B bp:Nat)(l:List Tr.Tok)(hl:l.length<n)(hp:Tr.PS w B bp en l) :
  Calls Tryz.prog 241 #[.pointer (some ⟨bp,0,none⟩),.string ⟨#[123]⟩,.agg #[.int .i64 0,.int .i64 v,.string ⟨#[]⟩,.string ⟨#[]⟩,.slice none 0 0,.int .i64 p]] w (Tr.Res w B bp en (Tr.wordedP en r [123] v p l) (Tr.VEx w.heap.size)):=by
 obtain⟨X,hX⟩:∃ X,X=Tr.wordedP en r [123] v p l:=⟨_,rfl⟩
 rw [← hX]
 have HC:=hid hCE
 have hB:=hp.size
 have hb:=hp.ptr
 have HP:=hid hp
 have HL:=hid hl
 clear hCE hp hl
 unfold Tr.wordedP Tr.kNIL Tr.kTRUE Tr.kFALSE at hX
 have HX:=hid hX
 clear hX
 cases hs:Tr.isS [125] l with
 | true =>
  have HXe:=hid (show X=.ok (.mk 6 v [] [] [] p) l.tail by rw [HX.out];simp [hs])
  have HI:=hid (Tr.is_yes en l [125] B bp hs)
  have HSk:=hid (Tr.skip_yes en l [125] B bp hs)
  clear HX hs
  go_enter Tryz.func241,Tryz.ntmps241
  go_wp2_with (first
   | (go_at_call 102;(with_reducible refine(HI.out _ ?_).mono ?_);(focus(exact pT));rintro e w2 ⟨rfl,g2,rfl⟩)
   | (go_at_call 98;(with_reducible refine(HSk.out _ ?_).mono ?_);(focus(exact pT));rintro e w3 ⟨rfl,hr3,hp3⟩;replace HR:=hid (show Tr.Rd w bp _ from rd_trans rT hr3);have hs3:=hr3.size;simp [more_size]at hs3;have HX5:=hid ((((blk_new w #[.int .i64 6,.int .i64 v,.string ⟨#[]⟩,.string ⟨#[]⟩,.slice none 0 0,.int .i64 p] 53).alloc _).more _).rd hr3 (by omega));have HX6:=hid (((Tr.blk_at (b:=w.heap.size+1) (w:=w.alloc (.cells #[.int .i64 6,.int .i64 v,.string ⟨#[]⟩,.string ⟨#[]⟩,.slice none 0 0,.int .i64 p] 53)) (by simp) Tr.zEx 53).more _).rd hr3 (by omega));have hl5:=HX5.out.lt;have hx5:=HX5.out.cell;have hf5:=HX5.out.free;have hl6:=HX6.out.lt;have hx6:=HX6.out.cell;have hf6:=HX6.out.free;replace HP:=hid hp3;clear hr3 hp3))
  refine bodyPost_ret (v:=.agg #[.int .i64 6,.int .i64 v,.string ⟨#[]⟩,.string ⟨#[]⟩,.slice none 0 0,.int .i64 p]) (by simp [results,Tryz.results241,go_sem,hx5,hf5,hx6,hf6]) rfl ?_
  exact⟨rd_set6 HR.out (.inr (by omega)) _ _ _ _ _ _,.inl ⟨_,_,_,HXe.out,Tr.PS.set6 HP.out (by omega) _ _ _ _ _ _,rfl,Tr.vex_nil _ _ _ _ _ [] []⟩⟩
 | false =>
  have HI:=hid (Tr.is_not en l [125] B bp hs)
  cases hE:Tr.labelsP r.ex l with
  | no q =>
   have HXe:=hid (show X=.no q by rw [HX.out];simp [hs,hE,Tr.R.bind])
   have HE:=hid (fun W hW=>Tr.Res.no (Tr.labels_of HC.out W B bp l HL.out hW) hE)
   clear HX hs hE
   go_enter Tryz.func241,Tryz.ntmps241
   go_wp2_with (first
    | (go_at_call 102;(with_reducible refine(HI.out _ ?_).mono ?_);(focus(exact pT));rintro e w2 ⟨rfl,g2,rfl⟩)
    | (go_at_call 222;(with_reducible refine(HE.out _ ?_).mono ?_);(focus(exact pT));rintro e w3 ⟨rfl,hr3⟩;replace HR:=hid (show Tr.Rd w bp _ from rd_trans rT hr3);clear hr3))
   exact⟨rfl,HR.out,.inr ⟨_,HXe.out,rfl⟩⟩
  | ok xs l1 =>
   have HE:=hid (fun W hW=>Tr.Res.ok (Tr.labels_of HC.out W B bp l HL.out hW) hE)
   cases hs2:Tr.isS [125] l1 with
   | false =>
    have HXe:=hid (show X=.no (Tr.posOf en l1)by rw [HX.out];simp [hs,hE,Tr.R.bind,Tr.skip,hs2])
    have HSk:=hid (Tr.skip_not en l1 [125] B bp hs2)
    clear HX hs hE hs2
    go_enter Tryz.func241,Tryz.ntmps241
    go_wp2_with (first
     | (go_at_call 102;(with_reducible refine(HI.out _ ?_).mono ?_);(focus(exact pT));rintro e w2 ⟨rfl,g2,rfl⟩)
     | (go_at_call 222;(with_reducible refine(HE.out _ ?_).mono ?_);(focus(exact pT));rintro e w3 ⟨hr3,hp3,v3,rfl,hva⟩;obtain⟨pa,na,ca,rfl⟩:=Tr.Is.form hva;replace HR:=hid (show Tr.Rd w bp _ from rd_trans rT hr3);have hs3:=hr3.size;simp [more_size]at hs3;have HX5:=hid ((((blk_new w #[.int .i64 6,.int .i64 v,.string ⟨#[]⟩,.string ⟨#[]⟩,.slice none 0 0,.int .i64 p] 53).alloc _).more _).rd hr3 (by omega));have HX6:=hid (((Tr.blk_at (b:=w.heap.size+1) (w:=w.alloc (.cells #[.int .i64 6,.int .i64 v,.string ⟨#[]⟩,.string ⟨#[]⟩,.slice none 0 0,.int .i64 p] 53)) (by simp) Tr.zEx 53).more _).rd hr3 (by omega));have hl5:=HX5.out.lt;have hx5:=HX5.out.cell;have hf5:=HX5.out.free;have hl6:=HX6.out.lt;have hx6:=HX6.out.cell;have hf6:=HX6.out.free;have HVA:=hid (show Da.Is w3 (Tr.Iv (w.heap.size+2) w3.heap.size) (.slice pa na ca) _ from Tr.Is.wide (Tr.Is.fix hva) (by simp [more_size] <;> omega) (Nat.le_refl _));replace HP:=hid hp3;clear hr3 hp3 hva)
     | (go_at_call 98;(with_reducible refine(HSk.out _ ?_).mono ?_);(focus(exact pT));rintro e w4 ⟨rfl,hr4⟩;replace HR:=hid (show Tr.Rd w bp _ from rd_trans rT hr4);clear hr4))
    exact⟨rfl,HR.out,.inr ⟨_,HXe.out,rfl⟩⟩
   | true =>
    have HXe:=hid (show X=.ok (.mk 6 v [] [] xs p) l1.tail by rw [HX.out];simp [hs,hE,Tr.R.bind,Tr.skip,hs2])
    have HSk:=hid (Tr.skip_yes en l1 [125] B bp hs2)
    clear HX hs hE hs2
    go_enter Tryz.func241,Tryz.ntmps241
    go_wp2_with (first
     | (go_at_call 102;(with_reducible refine(HI.out _ ?_).mono ?_);(focus(exact pT));rintro e w2 ⟨rfl,g2,rfl⟩)
     | (go_at_call 222;(with_reducible refine(HE.out _ ?_).mono ?_);(focus(exact pT));rintro e w3 ⟨hr3,hp3,v3,rfl,hva⟩;obtain⟨pa,na,ca,rfl⟩:=Tr.Is.form hva;replace HR:=hid (show Tr.Rd w bp _ from rd_trans rT hr3);have hs3:=hr3.size;simp [more_size]at hs3;have HX5:=hid ((((blk_new w #[.int .i64 6,.int .i64 v,.string ⟨#[]⟩,.string ⟨#[]⟩,.slice none 0 0,.int .i64 p] 53).alloc _).more _).rd hr3 (by omega));have HX6:=hid (((Tr.blk_at (b:=w.heap.size+1) (w:=w.alloc (.cells #[.int .i64 6,.int .i64 v,.string ⟨#[]⟩,.string ⟨#[]⟩,.slice none 0 0,.int .i64 p] 53)) (by simp) Tr.zEx 53).more _).rd hr3 (by omega));have hl5:=HX5.out.lt;have hx5:=HX5.out.cell;have hf5:=HX5.out.free;have hl6:=HX6.out.lt;have hx6:=HX6.out.cell;have hf6:=HX6.out.free;have HVA:=hid (show Da.Is w3 (Tr.Iv (w.heap.size+2) w3.heap.size) (.slice pa na ca) _ from Tr.Is.wide (Tr.Is.fix hva) (by simp [more_size] <;> omega) (Nat.le_refl _));replace HP:=hid hp3;clear hr3 hp3 hva)
     | (go_at_call 98;(with_reducible refine(HSk.out _ ?_).mono ?_);(focus(exact pT));rintro e w4 ⟨rfl,hr4,hp4⟩;replace HR:=hid (show Tr.Rd w bp _ from rd_trans rT hr4);have hs4:=hr4.size;simp at hs4;have HY5:=hid ((show Tr.Blk (w3.setCell ⟨w.heap.size,4,none⟩ (.slice pa na ca)) w.heap.size #[.int .i64 6,.int .i64 v,.string ⟨#[]⟩,.string ⟨#[]⟩,.slice pa na ca,.int .i64 p]from HX5.out.set 4 (.slice pa na ca)).rd hr4 (by omega));have HY6:=hid ((HX6.out.other (by omega) _ _).rd hr4 (by omega));have HVB:=hid (Tr.Is.rd (Tr.Is.set HVA.out (.inl (by omega)) 4 (.slice pa na ca)) hr4 (by omega));have hl5:=HY5.out.lt;have hx5:=HY5.out.cell;have hf5:=HY5.out.free;have hl6:=HY6.out.lt;have hx6:=HY6.out.cell;have hf6:=HY6.out.free;replace HP:=hid hp4;clear hr4 hp4))
    refine bodyPost_ret (v:=.agg #[.int .i64 6,.int .i64 v,.string ⟨#[]⟩,.string ⟨#[]⟩,.slice pa na ca,.int .i64 p]) (by simp [results,Tryz.results241,go_sem,hx5,hf5,hx6,hf6]) rfl ?_
    exact⟨rd_set6 HR.out (.inr (by omega)) _ _ _ _ _ _,.inl ⟨_,_,_,HXe.out,Tr.PS.set6 HP.out (by omega) _ _ _ _ _ _,rfl,_,rfl,Tr.Is.nx_out (lo:=w.heap.size) (S:=[w.heap.size+1]) (Tr.Is.nx_set6 (Tr.Is.nx_iv HVB.out (by omega) (by intro b hb';simp at hb';omega)) (.inl (by simp)) _ _ _ _ _ _)⟩⟩
theorem worded_pa(en:Int)(n:Nat)(r:Tr.Rc)(hCE:Tr.CE en n r)(v p:Int)(w:World)(B bp:Nat)(l:List Tr.Tok)(hl:l.length<n)(hp:Tr.PS w B bp en l) :
  Calls Tryz.prog 241 #[.pointer (some ⟨bp,0,none⟩),.string ⟨#[40]⟩,.agg #[.int .i64 0,.int .i64 v,.string ⟨#[]⟩,.string ⟨#[]⟩,.slice none 0 0,.int .i64 p]] w (Tr.Res w B bp en (Tr.wordedP en r [40] v p l) (Tr.VEx w.heap.size)):=by
 obtain⟨X,hX⟩:∃ X,X=Tr.wordedP en r [40] v p l:=⟨_,rfl⟩
 rw [← hX]
 have HC:=hid hCE
 have hB:=hp.size
 have hb:=hp.ptr
 have HP:=hid hp
 have HL:=hid hl
 clear hCE hp hl
 unfold Tr.wordedP Tr.kNIL Tr.kTRUE Tr.kFALSE at hX
 have HX:=hid hX
 clear hX
 cases hE:r.ex l with
 | no q =>
  have HXe:=hid (show X=.no q by rw [HX.out];simp [hE,Tr.R.bind])
  have HE:=hid (fun W hW=>Tr.Res.no (HC.out.ex W B bp l HL.out hW) hE)
  clear HX hE
  go_enter Tryz.func241,Tryz.ntmps241
  go_wp2_with (go_at_call 147;(with_reducible refine(HE.out _ ?_).mono ?_);(focus(exact pT));rintro e w3 ⟨rfl,hr3⟩;replace HR:=hid (show Tr.Rd w bp _ from rd_trans rT hr3);clear hr3)
  exact⟨rfl,HR.out,.inr ⟨_,HXe.out,rfl⟩⟩
 | ok c l1 =>
  obtain⟨k2,m2,t2,o2,xs,p2⟩:=c
  have HE:=hid (fun W hW=>Tr.Res.ok (HC.out.ex W B bp l HL.out hW) hE)
  cases hs2:Tr.isS [41] l1 with
  | false =>
   have HXe:=hid (show X=.no (Tr.posOf en l1)by rw [HX.out];simp [hE,Tr.R.bind,Tr.skip,hs2])
   have HSk:=hid (Tr.skip_not en l1 [41] B bp hs2)
   clear HX hE hs2
   go_enter Tryz.func241,Tryz.ntmps241
   go_wp2_with (first
    | (go_at_call 147;(with_reducible refine(HE.out _ ?_).mono ?_);(focus(exact pT));rintro e w3 ⟨hr3,hp3,v3,rfl,va,hv,hva⟩;obtain⟨pa,na,ca,rfl⟩:=Tr.Is.form hva;obtain rfl:v3=.agg #[.int .i64 k2,.int .i64 m2,.string ⟨t2.toArray⟩,.string ⟨o2.toArray⟩,.slice pa na ca,.int .i64 p2]:=hv;replace HR:=hid (show Tr.Rd w bp _ from rd_trans rT hr3);have hs3:=hr3.size;simp at hs3;have HX5:=hid (((blk_new w #[.int .i64 0,.int .i64 v,.string ⟨#[]⟩,.string ⟨#[]⟩,.slice none 0 0,.int .i64 p] 53).alloc _).rd hr3 (by omega));have HX6:=hid ((Tr.blk_at (b:=w.heap.size+1) (w:=w.alloc (.cells #[.int .i64 0,.int .i64 v,.string ⟨#[]⟩,.string ⟨#[]⟩,.slice none 0 0,.int .i64 p] 53)) (by simp) Tr.zEx 53).rd hr3 (by omega));have hl5:=HX5.out.lt;have hx5:=HX5.out.cell;have hf5:=HX5.out.free;have hl6:=HX6.out.lt;have hx6:=HX6.out.cell;have hf6:=HX6.out.free;have HVA:=hid (show Da.Is w3 (Tr.Iv (w.heap.size+2) w3.heap.size) (.slice pa na ca) _ from Tr.Is.wide (Tr.Is.fix hva) (by simp) (Nat.le_refl _));replace HP:=hid hp3;clear hr3 hp3 hva)
    | (go_at_call 98;(with_reducible refine(HSk.out _ ?_).mono ?_);(focus(exact pT));rintro e w4 ⟨rfl,hr4⟩;replace HR:=hid (show Tr.Rd w bp _ from rd_trans rT hr4);clear hr4))
   exact⟨rfl,HR.out,.inr ⟨_,HXe.out,rfl⟩⟩
  | true =>
   have HXe:=hid (show X=.ok (.mk k2 m2 t2 o2 xs p2) l1.tail by rw [HX.out];simp [hE,Tr.R.bind,Tr.skip,hs2])
   have HSk:=hid (Tr.skip_yes en l1 [41] B bp hs2)
   clear HX hE hs2
   go_enter Tryz.func241,Tryz.ntmps241
   go_wp2_with (first
    | (go_at_call 147;(with_reducible refine(HE.out _ ?_).mono ?_);(focus(exact pT));rintro e w3 ⟨hr3,hp3,v3,rfl,va,hv,hva⟩;obtain⟨pa,na,ca,rfl⟩:=Tr.Is.form hva;obtain rfl:v3=.agg #[.int .i64 k2,.int .i64 m2,.string ⟨t2.toArray⟩,.string ⟨o2.toArray⟩,.slice pa na ca,.int .i64 p2]:=hv;replace HR:=hid (show Tr.Rd w bp _ from rd_trans rT hr3);have hs3:=hr3.size;simp at hs3;have HX5:=hid (((blk_new w #[.int .i64 0,.int .i64 v,.string ⟨#[]⟩,.string ⟨#[]⟩,.slice none 0 0,.int .i64 p] 53).alloc _).rd hr3 (by omega));have HX6:=hid ((Tr.blk_at (b:=w.heap.size+1) (w:=w.alloc (.cells #[.int .i64 0,.int .i64 v,.string ⟨#[]⟩,.string ⟨#[]⟩,.slice none 0 0,.int .i64 p] 53)) (by simp) Tr.zEx 53).rd hr3 (by omega));have hl5:=HX5.out.lt;have hx5:=HX5.out.cell;have hf5:=HX5.out.free;have hl6:=HX6.out.lt;have hx6:=HX6.out.cell;have hf6:=HX6.out.free;have HVA:=hid (show Da.Is w3 (Tr.Iv (w.heap.size+2) w3.heap.size) (.slice pa na ca) _ from Tr.Is.wide (Tr.Is.fix hva) (by simp) (Nat.le_refl _));replace HP:=hid hp3;clear hr3 hp3 hva)
    | (go_at_call 98;(with_reducible refine(HSk.out _ ?_).mono ?_);(focus(exact pT));rintro e w4 ⟨rfl,hr4,hp4⟩;replace HR:=hid (show Tr.Rd w bp _ from rd_trans rT hr4);have hs4:=hr4.size;simp at hs4;have HY5:=hid ((Tr.Blk.set6 HX5.out (.int .i64 k2) (.int .i64 m2) (.string ⟨t2.toArray⟩) (.string ⟨o2.toArray⟩) (.slice pa na ca) (.int .i64 p2)).rd hr4 (by omega));have HY6:=hid ((Tr.Blk.other6 HX6.out (by omega) _ _ _ _ _ _).rd hr4 (by omega));have HVB:=hid (Tr.Is.nx_rd (Tr.Is.nx_set6 (lo:=w.heap.size) (S:=[w.heap.size,w.heap.size+1]) (Tr.Is.nx_iv HVA.out (by omega) (by intro b hb';simp at hb';omega)) (.inl (by simp)) (.int .i64 k2) (.int .i64 m2) (.string ⟨t2.toArray⟩) (.string ⟨o2.toArray⟩) (.slice pa na ca) (.int .i64 p2)) hr4 (by omega));have hl5:=HY5.out.lt;have hx5:=HY5.out.cell;have hf5:=HY5.out.free;have hl6:=HY6.out.lt;have hx6:=HY6.out.cell;have hf6:=HY6.out.free;replace HP:=hid hp4;clear hr4 hp4))
   refine bodyPost_ret (v:=.agg #[.int .i64 k2,.int .i64 m2,.string ⟨t2.toArray⟩,.string ⟨o2.toArray⟩,.slice pa na ca,.int .i64 p2]) (by simp [results,Tryz.results241,go_sem,hx5,hf5,hx6,hf6]) rfl ?_
   exact⟨rd_set6 HR.out (.inr (by omega)) _ _ _ _ _ _,.inl ⟨_,_,_,HXe.out,Tr.PS.set6 HP.out (by omega) _ _ _ _ _ _,rfl,_,rfl,Tr.Is.nx_out (Tr.Is.nx_set6 HVB.out (.inl (by simp)) _ _ _ _ _ _)⟩⟩
theorem worded_ti(en:Int)(n:Nat)(r:Tr.Rc)(hCE:Tr.CE en n r)(v p:Int)(w:World)(B bp:Nat)(l:List Tr.Tok)(hl:l.length<n)(hp:Tr.PS w B bp en l) :
  Calls Tryz.prog 241 #[.pointer (some ⟨bp,0,none⟩),.string ⟨#[126]⟩,.agg #[.int .i64 0,.int .i64 v,.string ⟨#[]⟩,.string ⟨#[]⟩,.slice none 0 0,.int .i64 p]] w (Tr.Res w B bp en (Tr.wordedP en r [126] v p l) (Tr.VEx w.heap.size)):=by
 obtain⟨X,hX⟩:∃ X,X=Tr.wordedP en r [126] v p l:=⟨_,rfl⟩
 rw [← hX]
 have HC:=hid hCE
 have hB:=hp.size
 have hb:=hp.ptr
 have HP:=hid hp
 have HL:=hid hl
 clear hCE hp hl
 unfold Tr.wordedP Tr.kNIL Tr.kTRUE Tr.kFALSE at hX
 have HX:=hid hX
 clear hX
 cases hE:r.fa l with
 | no q =>
  have HXe:=hid (show X=.no q by rw [HX.out];simp [hE,Tr.R.bind])
  have HE:=hid (fun W hW=>Tr.Res.no (HC.out.fa W B bp l HL.out hW) hE)
  clear HX hE
  go_enter Tryz.func241,Tryz.ntmps241
  go_wp2_with (go_at_call 233;(with_reducible refine(HE.out _ ?_).mono ?_);(focus(exact pT));rintro e w3 ⟨rfl,hr3⟩;replace HR:=hid (show Tr.Rd w bp _ from rd_trans rT hr3);clear hr3)
  exact⟨rfl,HR.out,.inr ⟨_,HXe.out,rfl⟩⟩
 | ok c l1 =>
  obtain⟨k2,m2,t2,o2,xs,p2⟩:=c
  have HE:=hid (fun W hW=>Tr.Res.ok (HC.out.fa W B bp l HL.out hW) hE)
  have HXe:=hid (show X=.ok (.mk 13 v [] [126] [.mk k2 m2 t2 o2 xs p2] p) l1 by rw [HX.out];simp [hE,Tr.R.bind])
  clear HX hE
  go_enter Tryz.func241,Tryz.ntmps241
  go_wp2_with (fail)
  go_at_call 233
  with_reducible refine(HE.out _ ?_).mono ?_
  focus(exact pT)
  (rintro e w3 ⟨hr3,hp3,v3,rfl,va,hv,hva⟩;obtain⟨pa,na,ca,rfl⟩:=Tr.Is.form hva;obtain rfl:v3=.agg #[.int .i64 k2,.int .i64 m2,.string ⟨t2.toArray⟩,.string ⟨o2.toArray⟩,.slice pa na ca,.int .i64 p2]:=hv;replace HR:=hid (show Tr.Rd w bp _ from rd_trans rT hr3);have hs3:=hr3.size;simp at hs3;have HX5:=hid (((blk_new w #[.int .i64 13,.int .i64 v,.string ⟨#[]⟩,.string ⟨#[126]⟩,.slice none 0 0,.int .i64 p] 53).alloc _).rd hr3 (by omega));have HX6:=hid ((Tr.blk_at (b:=w.heap.size+1) (w:=w.alloc (.cells #[.int .i64 13,.int .i64 v,.string ⟨#[]⟩,.string ⟨#[126]⟩,.slice none 0 0,.int .i64 p] 53)) (by simp) Tr.zEx 53).rd hr3 (by omega));have hl5:=HX5.out.lt;have hx5:=HX5.out.cell;have hf5:=HX5.out.free;have hl6:=HX6.out.lt;have hx6:=HX6.out.cell;have hf6:=HX6.out.free;have HVA:=hid (show Da.Is w3 (Tr.Iv (w.heap.size+2) w3.heap.size) (.slice pa na ca) _ from Tr.Is.wide (Tr.Is.fix hva) (by simp) (Nat.le_refl _));replace HP:=hid hp3;clear hr3 hp3 hva)
  iterate 12 (first|go_step|go_simp)
  generalize hW:World.alloc _ _=W
  have HR7:=hid (show Tr.Rd w bp W by rw [← hW];exact Tr.rd_alloc (rd_set HR.out (.inr (Nat.le_refl _)) _ _) _)
  have HP7:=hid (show Tr.PS W B bp en l1 by rw [← hW];exact(HP.out.set hB _ _).alloc _)
  have HV5:=hid (show Tr.Blk W w.heap.size #[.int .i64 13,.int .i64 v,.string ⟨#[]⟩,.string ⟨#[126]⟩,.slice (some ⟨w3.heap.size,0,none⟩) 1 1,.int .i64 p]by rw [← hW];exact(HX5.out.set 4 _).alloc _)
  have HV6:=hid (show Tr.Blk W (w.heap.size+1) Tr.zEx by rw [← hW];exact(HX6.out.other (by omega) _ _).alloc _)
  have HVI:=hid (show Da.Is W (Tr.Nx w.heap.size [w.heap.size,w.heap.size+1]) (.slice (some ⟨w3.heap.size,0,none⟩) 1 1) (.list 6 (Tr.exDs [.mk k2 m2 t2 o2 xs p2]))by
   rw [← hW]
   exact Tr.is_one (Tr.blk_at (by simp) _ _) ⟨by omega,by simp;omega⟩ (Tr.Is.alloc (Tr.Is.nx_set (Tr.Is.nx_iv HVA.out (by omega) (by intro b hb';simp at hb';omega)) (.inl (by simp)) _ _) _))
  clear hW HX5 HX6 HVA hx5 hf5 hx6 hf6 hl5 hl6
  have hl5:=HV5.out.lt
  have hx5:=HV5.out.cell
  have hf5:=HV5.out.free
  have hl6:=HV6.out.lt
  have hx6:=HV6.out.cell
  have hf6:=HV6.out.free
  go_wp2
  refine bodyPost_ret (v:=.agg #[.int .i64 13,.int .i64 v,.string ⟨#[]⟩,.string ⟨#[126]⟩,.slice (some ⟨w3.heap.size,0,none⟩) 1 1,.int .i64 p]) (by simp [results,Tryz.results241,go_sem,hx5,hf5,hx6,hf6]) rfl ?_
  exact⟨rd_set6 HR7.out (.inr (by omega)) _ _ _ _ _ _,.inl ⟨_,_,_,HXe.out,Tr.PS.set6 HP7.out (by omega) _ _ _ _ _ _,rfl,_,rfl,Tr.Is.nx_out (Tr.Is.nx_set6 HVI.out (.inl (by simp)) _ _ _ _ _ _)⟩⟩
theorem worded_any(en:Int)(n:Nat)(r:Tr.Rc)(hCE:Tr.CE en n r)(wd:List UInt8)(v p:Int)(w:World)(B bp:Nat)(l:List Tr.Tok)(hl:l.length<n)(hp:Tr.PS w B bp en l) :
  Calls Tryz.prog 241 #[.pointer (some ⟨bp,0,none⟩),.string ⟨wd.toArray⟩,.agg #[.int .i64 0,.int .i64 v,.string ⟨#[]⟩,.string ⟨#[]⟩,.slice none 0 0,.int .i64 p]] w (Tr.Res w B bp en (Tr.wordedP en r wd v p l) (Tr.VEx w.heap.size)):=by
 have HA:=hid hCE
 by_cases g3:wd=[123]
 ·subst g3;exact worded_cu en n r hCE v p w B bp l hl hp
 by_cases g4:wd=[40]
 ·subst g4;exact worded_pa en n r hCE v p w B bp l hl hp
 by_cases g5:wd=[126]
 ·subst g5;exact worded_ti en n r hCE v p w B bp l hl hp
 obtain⟨X,hX⟩:∃ X,X=Tr.wordedP en r wd v p l:=⟨_,rfl⟩
 rw [← hX]
 have HC:=hid hCE
 have hB:=hp.size
 have hb:=hp.ptr
 have HP:=hid hp
 have HL:=hid hl
 clear hCE hp hl
 unfold Tr.wordedP Tr.kNIL Tr.kTRUE Tr.kFALSE at hX
 by_cases h0:wd=[78,73,76]
 ·subst h0
  have HX:=hid hX
  clear hX
  have HXe:=hid (show X=.ok (.mk 4 v [] [] [] p) l by rw [HX.out];rfl)
  clear HX
  go_enter Tryz.func241,Tryz.ntmps241
  go_wp2
  refine bodyPost_ret (v:=.agg #[.int .i64 4,.int .i64 v,.string ⟨#[]⟩,.string ⟨#[]⟩,.slice none 0 0,.int .i64 p]) (by simp [results,Tryz.results241,go_sem]) rfl ?_
  exact⟨rT,.inl ⟨_,_,_,HXe.out,pT,rfl,Tr.vex_nil _ _ _ _ _ [] []⟩⟩
 have hn0:(wd == [78,73,76])=false:=beq_eq_false_iff_ne.2 h0
 by_cases h1:wd=[84,82,85,69]
 ·subst h1
  have HX:=hid hX
  clear hX
  have HXe:=hid (show X=.ok (.mk 5 1 [] [] [] p) l by rw [HX.out];rfl)
  clear HX
  go_enter Tryz.func241,Tryz.ntmps241
  go_wp2
  refine bodyPost_ret (v:=.agg #[.int .i64 5,.int .i64 1,.string ⟨#[]⟩,.string ⟨#[]⟩,.slice none 0 0,.int .i64 p]) (by simp [results,Tryz.results241,go_sem]) rfl ?_
  exact⟨rT,.inl ⟨_,_,_,HXe.out,pT,rfl,Tr.vex_nil _ _ _ _ _ [] []⟩⟩
 have hn1:(wd == [84,82,85,69])=false:=beq_eq_false_iff_ne.2 h1
 by_cases h2:wd=[70,65,76,83,69]
 ·subst h2
  have HX:=hid hX
  clear hX
  have HXe:=hid (show X=.ok (.mk 5 v [] [] [] p) l by rw [HX.out];rfl)
  clear HX
  go_enter Tryz.func241,Tryz.ntmps241
  go_wp2
  refine bodyPost_ret (v:=.agg #[.int .i64 5,.int .i64 v,.string ⟨#[]⟩,.string ⟨#[]⟩,.slice none 0 0,.int .i64 p]) (by simp [results,Tryz.results241,go_sem]) rfl ?_
  exact⟨rT,.inl ⟨_,_,_,HXe.out,pT,rfl,Tr.vex_nil _ _ _ _ _ [] []⟩⟩
 have hn2:(wd == [70,65,76,83,69])=false:=beq_eq_false_iff_ne.2 h2
 have h3:=g3
 have hn3:(wd == [123])=false:=beq_eq_false_iff_ne.2 h3
 have h4:=g4
 have hn4:(wd == [40])=false:=beq_eq_false_iff_ne.2 h4
 have h5:=g5
 have hn5:(wd == [126])=false:=beq_eq_false_iff_ne.2 h5
 have HXe:=hid (show X=.ok (.mk 0 v [] [] [] p) l by rw [hX];simp only [h0,h1,h2,h3,h4,h5,if_false])
 clear hX h0 h1 h2 h3 h4 h5 g3 g4 g5 HA
 go_enter Tryz.func241,Tryz.ntmps241
 go_wp2
 refine bodyPost_ret (v:=.agg #[.int .i64 0,.int .i64 v,.string ⟨#[]⟩,.string ⟨#[]⟩,.slice none 0 0,.int .i64 p]) (by simp [results,Tryz.results241,go_sem]) rfl ?_
 exact⟨rT,.inl ⟨_,_,_,HXe.out,pT,rfl,Tr.vex_nil _ _ _ _ _ [] []⟩⟩
namespace Tr
theorem start_two{en:Int}{l:List Tok}(h:startT l=2):∃ kd t2 m q,peek en l=(kd,t2,m,q)∧(kd=3∨kd=4∨kd=5∨kd=2∨kd=6)∧l ≠ []:=by
 cases l with
 | nil=>simp [startT]at h
 | cons t l =>
  obtain⟨kd,t2,m,q⟩:=t
  refine⟨kd,t2,m,q,rfl,?_,by simp⟩
  unfold startT at h
  simp only at h
  repeat' split at h
  all_goals first|omega|(simp at h;done)|skip
theorem start_is(w:World)(B bp:Nat)(en z:Int)(l:List Tok)(hz:startT l=z)(hp:PS w B bp en l):Calls Tryz.prog 221 #[.pointer (some ⟨bp,0,none⟩)] w fun e w'=>e=.returned (.int .i64 z)∧∃ g,w'=more w g:=by
 have:=start_any w B bp en l hp
 rw [hz]at this
 exact this
end Tr
theorem factor_one(en:Int)(n:Nat)(r:Tr.Rc)(hd:Tr.CF 189 en n (Tr.designP en r))(w:World)(B bp:Nat)(l:List Tr.Tok)(hz:Tr.startT l=1)(hl:l.length≤n)(hp:Tr.PS w B bp en l) :
  Calls Tryz.prog 233 #[.pointer (some ⟨bp,0,none⟩)] w (Tr.Res w B bp en (factorP en r l) (Tr.VEx w.heap.size)):=by
 have hf:factorP en r l=Tr.designP en r l:=by unfold factorP;rw [if_pos hz]
 rw [hf]
 have HD:=hid (fun W hW=>hd W B bp l hl hW)
 have hB:=hp.size
 have hb:=hp.ptr
 obtain⟨kd,t2,m,q,hpk⟩:∃ kd t2 m q,Tr.peek en l=(kd,t2,m,q):=⟨_,_,_,_,rfl⟩
 have HPk:=hid (fun W hW=>peek_is W B bp en l kd m q t2 hW hpk)
 have HSt:=hid (fun W hW=>Tr.start_is W B bp en 1 l hz hW)
 have HP:=hid hp
 clear hd hl hp hpk hz hf
 cases hE:Tr.designP en r l with
 | no q2 =>
  have HE:=hid (fun W hW=>Tr.Res.no (HD.out W hW) hE)
  clear hE HD
  go_enter Tryz.func233,Tryz.ntmps233
  go_wp2_with (first
   | (go_at_call 97;(with_reducible refine(HPk.out _ ?_).mono ?_);(focus(exact pT));rintro e w2 ⟨rfl,g2,rfl⟩)
   | (go_at_call 221;(with_reducible refine(HSt.out _ ?_).mono ?_);(focus(exact pT));rintro e w3 ⟨rfl,g3,rfl⟩)
   | (go_at_call 189;(with_reducible refine(HE.out _ ?_).mono ?_);(focus(exact pT));rintro e w4 ⟨rfl,hr4⟩;replace HR:=hid (show Tr.Rd w bp _ from rd_trans rT hr4);clear hr4))
  exact⟨rfl,HR.out,.inr ⟨_,rfl,rfl⟩⟩
 | ok a l1 =>
  have HE:=hid (fun W hW=>Tr.Res.ok (HD.out W hW) hE)
  clear hE HD
  obtain⟨k2,m2,tt2,o2,xs,p2⟩:=a
  go_enter Tryz.func233,Tryz.ntmps233
  go_wp2_with (first
   | (go_at_call 97;(with_reducible refine(HPk.out _ ?_).mono ?_);(focus(exact pT));rintro e w2 ⟨rfl,g2,rfl⟩)
   | (go_at_call 221;(with_reducible refine(HSt.out _ ?_).mono ?_);(focus(exact pT));rintro e w3 ⟨rfl,g3,rfl⟩)
   | (go_at_call 189;(with_reducible refine(HE.out _ ?_).mono ?_);(focus(exact pT));rintro e w4 ⟨hr4,hp4,v4,rfl,va,hv,hva⟩;obtain⟨pa,na,ca,rfl⟩:=Tr.Is.form hva;obtain rfl:v4=.agg #[.int .i64 k2,.int .i64 m2,.string ⟨tt2.toArray⟩,.string ⟨o2.toArray⟩,.slice pa na ca,.int .i64 p2]:=hv;replace HR:=hid (show Tr.Rd w bp _ from rd_trans rT hr4);have hs4:=hr4.size;simp [more_size]at hs4;have HX2:=hid ((show Tr.Blk _ w.heap.size Tr.zEx from(blk_new w Tr.zEx 53).below bT).rd hr4 (by omega));have hl2:=HX2.out.lt;have hx2:=HX2.out.cell;have hf2:=HX2.out.free;have HVA:=hid (Da.Is.mono hva (fun b hb=>by have hb2:_≤b:=hb;simp [more_size]at hb2;exact(show Tr.Nx (w.heap.size) [w.heap.size] b from⟨by omega,by simp;omega⟩)));replace HP:=hid hp4;clear hr4 hp4 hva))
  refine bodyPost_ret (v:=.agg #[.int .i64 k2,.int .i64 m2,.string ⟨tt2.toArray⟩,.string ⟨o2.toArray⟩,.slice pa na ca,.int .i64 p2]) (by simp [results,Tryz.results233,go_sem,hx2,hf2]) rfl ?_
  exact⟨rd_set6 HR.out (.inr (Nat.le_refl _)) _ _ _ _ _ _,.inl ⟨_,_,_,rfl,Tr.PS.set6 HP.out hB _ _ _ _ _ _,rfl,_,rfl,Tr.Is.nx_out (Tr.Is.nx_set6 HVA.out (.inl (by simp)) _ _ _ _ _ _)⟩⟩
theorem factor_none(en:Int)(r:Tr.Rc)(w:World)(B bp:Nat)(l:List Tr.Tok)(hz1:Tr.startT l ≠ 1)(hz2:Tr.startT l ≠ 2)(hp:Tr.PS w B bp en l) :
  Calls Tryz.prog 233 #[.pointer (some ⟨bp,0,none⟩)] w (Tr.Res w B bp en (factorP en r l) (Tr.VEx w.heap.size)):=by
 have hf:factorP en r l=.no (Tr.posOf en l):=by unfold factorP;rw [if_neg hz1,if_neg hz2]
 rw [hf]
 have hB:=hp.size
 have hb:=hp.ptr
 obtain⟨kd,t2,m,q,hpk⟩:∃ kd t2 m q,Tr.peek en l=(kd,t2,m,q):=⟨_,_,_,_,rfl⟩
 have HPk:=hid (fun W hW=>peek_is W B bp en l kd m q t2 hW hpk)
 obtain⟨z,hz⟩:∃ z,Tr.startT l=z:=⟨_,rfl⟩
 have HSt:=hid (fun W hW=>Tr.start_is W B bp en z l hz hW)
 rw [hz]at hz1 hz2
 have HW:=hid (fun W hW=>want_no W B bp en l hW)
 have HP:=hid hp
 clear hp hpk hz hf
 have hz3:(z == 1)=false:=beq_eq_false_iff_ne.2 hz1
 have hz4:(z == 2)=false:=beq_eq_false_iff_ne.2 hz2
 go_enter Tryz.func233,Tryz.ntmps233
 go_wp2_with (first
  | (go_at_call 97;(with_reducible refine(HPk.out _ ?_).mono ?_);(focus(exact pT));rintro e w2 ⟨rfl,g2,rfl⟩)
  | (go_at_call 221;(with_reducible refine(HSt.out _ ?_).mono ?_);(focus(exact pT));rintro e w3 ⟨rfl,g3,rfl⟩)
  | (go_at_call 59;(with_reducible refine(HW.out _ ?_).mono ?_);(focus(exact pT));rintro e w4 ⟨rfl,g4,rfl⟩))
 exact⟨rfl,rT,.inr ⟨_,rfl,rfl⟩⟩
theorem factor_k3(en:Int)(r:Tr.Rc)(w:World)(B bp:Nat)(l:List Tr.Tok)(m q:Int)(t2:List UInt8)(hz:Tr.startT l=2)(hpk:Tr.peek en l=(3,t2,m,q))(hne:l ≠ [])(hp:Tr.PS w B bp en l) :
  Calls Tryz.prog 233 #[.pointer (some ⟨bp,0,none⟩)] w (Tr.Res w B bp en (factorP en r l) (Tr.VEx w.heap.size)):=by
 have hf:factorP en r l=.ok (.mk 1 m [] [] [] q) l.tail:=by unfold factorP;rw [if_neg (by rw [hz];decide),if_pos hz];simp [hpk]
 rw [hf]
 have hB:=hp.size
 have hb:=hp.ptr
 have HPk:=hid (fun W hW=>peek_is W B bp en l 3 m q t2 hW hpk)
 have HSt:=hid (fun W hW=>Tr.start_is W B bp en 2 l hz hW)
 obtain⟨k,c1,f1,hlt,hk,hAT⟩:=hp.at
 have HAT:=hid (hAT hne)
 have HP:=hid hp
 clear hp hpk hz hf hAT hne
 go_enter Tryz.func233,Tryz.ntmps233
 go_wp2_with (first
  | (go_at_call 97;(with_reducible refine(HPk.out _ ?_).mono ?_);(focus(exact pT));rintro e w2 ⟨rfl,g2,rfl⟩)
  | (go_at_call 221;(with_reducible refine(HSt.out _ ?_).mono ?_);(focus(exact pT));rintro e w3 ⟨rfl,g3,rfl⟩))
 refine bodyPost_ret (v:=.agg #[.int .i64 1,.int .i64 m,.string ⟨#[]⟩,.string ⟨#[]⟩,.slice none 0 0,.int .i64 q]) (by simp [results,Tryz.results233,go_sem]) rfl ?_
 exact⟨rd_below (rd_set (rd_refl _ _) (.inl rfl) _ _) bT,.inl ⟨_,_,_,rfl,HAT.out.below bT,rfl,Tr.vex_nil _ _ _ _ _ [] []⟩⟩
theorem factor_k4(en:Int)(r:Tr.Rc)(w:World)(B bp:Nat)(l:List Tr.Tok)(m q:Int)(t2:List UInt8)(hz:Tr.startT l=2)(hpk:Tr.peek en l=(4,t2,m,q))(hne:l ≠ [])(hp:Tr.PS w B bp en l) :
  Calls Tryz.prog 233 #[.pointer (some ⟨bp,0,none⟩)] w (Tr.Res w B bp en (factorP en r l) (Tr.VEx w.heap.size)):=by
 have hf:factorP en r l=.ok (.mk 2 m [] [] [] q) l.tail:=by unfold factorP;rw [if_neg (by rw [hz];decide),if_pos hz];simp [hpk]
 rw [hf]
 have hB:=hp.size
 have hb:=hp.ptr
 have HPk:=hid (fun W hW=>peek_is W B bp en l 4 m q t2 hW hpk)
 have HSt:=hid (fun W hW=>Tr.start_is W B bp en 2 l hz hW)
 obtain⟨k,c1,f1,hlt,hk,hAT⟩:=hp.at
 have HAT:=hid (hAT hne)
 have HP:=hid hp
 clear hp hpk hz hf hAT hne
 go_enter Tryz.func233,Tryz.ntmps233
 go_wp2_with (first
  | (go_at_call 97;(with_reducible refine(HPk.out _ ?_).mono ?_);(focus(exact pT));rintro e w2 ⟨rfl,g2,rfl⟩)
  | (go_at_call 221;(with_reducible refine(HSt.out _ ?_).mono ?_);(focus(exact pT));rintro e w3 ⟨rfl,g3,rfl⟩))
 refine bodyPost_ret (v:=.agg #[.int .i64 2,.int .i64 m,.string ⟨#[]⟩,.string ⟨#[]⟩,.slice none 0 0,.int .i64 q]) (by simp [results,Tryz.results233,go_sem]) rfl ?_
 exact⟨rd_below (rd_set (rd_refl _ _) (.inl rfl) _ _) bT,.inl ⟨_,_,_,rfl,HAT.out.below bT,rfl,Tr.vex_nil _ _ _ _ _ [] []⟩⟩
theorem factor_k5(en:Int)(r:Tr.Rc)(w:World)(B bp:Nat)(l:List Tr.Tok)(m q:Int)(t2:List UInt8)(hz:Tr.startT l=2)(hpk:Tr.peek en l=(5,t2,m,q))(hne:l ≠ [])(hp:Tr.PS w B bp en l) :
  Calls Tryz.prog 233 #[.pointer (some ⟨bp,0,none⟩)] w (Tr.Res w B bp en (factorP en r l) (Tr.VEx w.heap.size)):=by
 have hf:factorP en r l=.ok (.mk 3 m t2 [] [] q) l.tail:=by unfold factorP;rw [if_neg (by rw [hz];decide),if_pos hz];simp [hpk]
 rw [hf]
 have hB:=hp.size
 have hb:=hp.ptr
 have HPk:=hid (fun W hW=>peek_is W B bp en l 5 m q t2 hW hpk)
 have HSt:=hid (fun W hW=>Tr.start_is W B bp en 2 l hz hW)
 obtain⟨k,c1,f1,hlt,hk,hAT⟩:=hp.at
 have HAT:=hid (hAT hne)
 have HP:=hid hp
 clear hp hpk hz hf hAT hne
 go_enter Tryz.func233,Tryz.ntmps233
 go_wp2_with (first
  | (go_at_call 97;(with_reducible refine(HPk.out _ ?_).mono ?_);(focus(exact pT));rintro e w2 ⟨rfl,g2,rfl⟩)
  | (go_at_call 221;(with_reducible refine(HSt.out _ ?_).mono ?_);(focus(exact pT));rintro e w3 ⟨rfl,g3,rfl⟩))
 go_region
 all_goals go_wp2
 all_goals
  refine bodyPost_ret (v:=.agg #[.int .i64 3,.int .i64 m,.string ⟨t2.toArray⟩,.string ⟨#[]⟩,.slice none 0 0,.int .i64 q]) (by simp [results,Tryz.results233,go_sem]) rfl ?_
  exact⟨rd_below (rd_set (rd_refl _ _) (.inl rfl) _ _) bT,.inl ⟨_,_,_,rfl,HAT.out.below bT,rfl,Tr.vex_nil _ _ _ _ _ t2 []⟩⟩
theorem factor_k2(en:Int)(n:Nat)(r:Tr.Rc)(w:World)(B bp:Nat)(l:List Tr.Tok)(m q:Int)(t2:List UInt8)(hz:Tr.startT l=2)(hpk:Tr.peek en l=(2,t2,m,q))(hne:l ≠ [])(hCE:Tr.CE en n r)(hl:l.length≤n)(hp:Tr.PS w B bp en l) :
  Calls Tryz.prog 233 #[.pointer (some ⟨bp,0,none⟩)] w (Tr.Res w B bp en (factorP en r l) (Tr.VEx w.heap.size)):=by
 have hf:factorP en r l=Tr.wordedP en r t2 m q l.tail:=by unfold factorP;rw [if_neg (by rw [hz];decide),if_pos hz];simp [hpk]
 rw [hf]
 have hB:=hp.size
 have hb:=hp.ptr
 have HPk:=hid (fun W hW=>peek_is W B bp en l 2 m q t2 hW hpk)
 have HSt:=hid (fun W hW=>Tr.start_is W B bp en 2 l hz hW)
 obtain⟨k,c1,f1,hlt,hk,hAT⟩:=hp.at
 have HAT:=hid (hAT hne)
 have HP:=hid hp
 have HWd:=hid (fun W hW=>worded_any en n r hCE t2 m q W B bp l.tail (by have:=Tr.tail_lt hne;omega) hW)
 clear hp hpk hz hf hAT hne hCE hl
 cases hE:Tr.wordedP en r t2 m q l.tail with
 | no q2 =>
  have HE:=hid (fun W hW=>Tr.Res.no (HWd.out W hW) hE)
  clear hE HWd
  go_enter Tryz.func233,Tryz.ntmps233
  go_wp2_with (first
   | (go_at_call 97;(with_reducible refine(HPk.out _ ?_).mono ?_);(focus(exact pT));rintro e w2 ⟨rfl,g2,rfl⟩)
   | (go_at_call 221;(with_reducible refine(HSt.out _ ?_).mono ?_);(focus(exact pT));rintro e w3 ⟨rfl,g3,rfl⟩)
   | (go_at_call 241;(with_reducible refine(HE.out _ ?_).mono ?_);(focus(exact HAT.out.below bT));rintro e w4 ⟨rfl,hr4⟩;have HR:=hid (show Tr.Rd w bp _ from rd_trans (rd_below (rd_set (rd_refl _ _) (.inl rfl) _ _) bT) hr4);clear hr4))
  exact⟨rfl,HR.out,.inr ⟨_,rfl,rfl⟩⟩
 | ok a l1 =>
  have HE:=hid (fun W hW=>Tr.Res.ok (HWd.out W hW) hE)
  clear hE HWd
  obtain⟨k2,m2,tt2,o2,xs,p2⟩:=a
  go_enter Tryz.func233,Tryz.ntmps233
  go_wp2_with (first
   | (go_at_call 97;(with_reducible refine(HPk.out _ ?_).mono ?_);(focus(exact pT));rintro e w2 ⟨rfl,g2,rfl⟩)
   | (go_at_call 221;(with_reducible refine(HSt.out _ ?_).mono ?_);(focus(exact pT));rintro e w3 ⟨rfl,g3,rfl⟩)
   | (go_at_call 241;(with_reducible refine(HE.out _ ?_).mono ?_);(focus(exact HAT.out.below bT));rintro e w4 ⟨hr4,hp4,v4,rfl,va,hv,hva⟩;obtain⟨pa,na,ca,rfl⟩:=Tr.Is.form hva;obtain rfl:v4=.agg #[.int .i64 k2,.int .i64 m2,.string ⟨tt2.toArray⟩,.string ⟨o2.toArray⟩,.slice pa na ca,.int .i64 p2]:=hv;have HR:=hid (show Tr.Rd w bp _ from rd_trans (rd_below (rd_set (rd_refl _ _) (.inl rfl) _ _) bT) hr4);have hs4:=hr4.size;simp [more_size]at hs4;have HX2:=hid ((show Tr.Blk _ w.heap.size Tr.zEx from(Tr.blk_at (b:=w.heap.size) (w:=w.setCell ⟨bp,1,none⟩ (.int .i64 ((k:Int)+1))) (by simp) Tr.zEx 53).below bT).rd hr4 (by omega));have hl2:=HX2.out.lt;have hx2:=HX2.out.cell;have hf2:=HX2.out.free;have HVA:=hid (Da.Is.mono hva (fun b hb=>by have hb2:_≤b:=hb;simp [more_size]at hb2;exact(show Tr.Nx (w.heap.size) [w.heap.size] b from⟨by omega,by simp;omega⟩)));have HP:=hid hp4;clear hr4 hp4 hva))
  refine bodyPost_ret (v:=.agg #[.int .i64 k2,.int .i64 m2,.string ⟨tt2.toArray⟩,.string ⟨o2.toArray⟩,.slice pa na ca,.int .i64 p2]) (by simp [results,Tryz.results233,go_sem,hx2,hf2]) rfl ?_
  exact⟨rd_set6 HR.out (.inr (Nat.le_refl _)) _ _ _ _ _ _,.inl ⟨_,_,_,rfl,Tr.PS.set6 HP.out hB _ _ _ _ _ _,rfl,_,rfl,Tr.Is.nx_out (Tr.Is.nx_set6 HVA.out (.inl (by simp)) _ _ _ _ _ _)⟩⟩
theorem factor_k6(en:Int)(n:Nat)(r:Tr.Rc)(w:World)(B bp:Nat)(l:List Tr.Tok)(m q:Int)(t2:List UInt8)(hz:Tr.startT l=2)(hpk:Tr.peek en l=(6,t2,m,q))(hne:l ≠ [])(hCE:Tr.CE en n r)(hl:l.length≤n)(hp:Tr.PS w B bp en l) :
  Calls Tryz.prog 233 #[.pointer (some ⟨bp,0,none⟩)] w (Tr.Res w B bp en (factorP en r l) (Tr.VEx w.heap.size)):=by
 have hf:factorP en r l=Tr.wordedP en r t2 m q l.tail:=by unfold factorP;rw [if_neg (by rw [hz];decide),if_pos hz];simp [hpk]
 rw [hf]
 have hB:=hp.size
 have hb:=hp.ptr
 have HPk:=hid (fun W hW=>peek_is W B bp en l 6 m q t2 hW hpk)
 have HSt:=hid (fun W hW=>Tr.start_is W B bp en 2 l hz hW)
 obtain⟨k,c1,f1,hlt,hk,hAT⟩:=hp.at
 have HAT:=hid (hAT hne)
 have HP:=hid hp
 have HWd:=hid (fun W hW=>worded_any en n r hCE t2 m q W B bp l.tail (by have:=Tr.tail_lt hne;omega) hW)
 clear hp hpk hz hf hAT hne hCE hl
 cases hE:Tr.wordedP en r t2 m q l.tail with
 | no q2 =>
  have HE:=hid (fun W hW=>Tr.Res.no (HWd.out W hW) hE)
  clear hE HWd
  go_enter Tryz.func233,Tryz.ntmps233
  go_wp2_with (first
   | (go_at_call 97;(with_reducible refine(HPk.out _ ?_).mono ?_);(focus(exact pT));rintro e w2 ⟨rfl,g2,rfl⟩)
   | (go_at_call 221;(with_reducible refine(HSt.out _ ?_).mono ?_);(focus(exact pT));rintro e w3 ⟨rfl,g3,rfl⟩)
   | (go_at_call 241;(with_reducible refine(HE.out _ ?_).mono ?_);(focus(exact HAT.out.below bT));rintro e w4 ⟨rfl,hr4⟩;have HR:=hid (show Tr.Rd w bp _ from rd_trans (rd_below (rd_set (rd_refl _ _) (.inl rfl) _ _) bT) hr4);clear hr4))
  exact⟨rfl,HR.out,.inr ⟨_,rfl,rfl⟩⟩
 | ok a l1 =>
  have HE:=hid (fun W hW=>Tr.Res.ok (HWd.out W hW) hE)
  clear hE HWd
  obtain⟨k2,m2,tt2,o2,xs,p2⟩:=a
  go_enter Tryz.func233,Tryz.ntmps233
  go_wp2_with (first
   | (go_at_call 97;(with_reducible refine(HPk.out _ ?_).mono ?_);(focus(exact pT));rintro e w2 ⟨rfl,g2,rfl⟩)
   | (go_at_call 221;(with_reducible refine(HSt.out _ ?_).mono ?_);(focus(exact pT));rintro e w3 ⟨rfl,g3,rfl⟩)
   | (go_at_call 241;(with_reducible refine(HE.out _ ?_).mono ?_);(focus(exact HAT.out.below bT));rintro e w4 ⟨hr4,hp4,v4,rfl,va,hv,hva⟩;obtain⟨pa,na,ca,rfl⟩:=Tr.Is.form hva;obtain rfl:v4=.agg #[.int .i64 k2,.int .i64 m2,.string ⟨tt2.toArray⟩,.string ⟨o2.toArray⟩,.slice pa na ca,.int .i64 p2]:=hv;have HR:=hid (show Tr.Rd w bp _ from rd_trans (rd_below (rd_set (rd_refl _ _) (.inl rfl) _ _) bT) hr4);have hs4:=hr4.size;simp [more_size]at hs4;have HX2:=hid ((show Tr.Blk _ w.heap.size Tr.zEx from(Tr.blk_at (b:=w.heap.size) (w:=w.setCell ⟨bp,1,none⟩ (.int .i64 ((k:Int)+1))) (by simp) Tr.zEx 53).below bT).rd hr4 (by omega));have hl2:=HX2.out.lt;have hx2:=HX2.out.cell;have hf2:=HX2.out.free;have HVA:=hid (Da.Is.mono hva (fun b hb=>by have hb2:_≤b:=hb;simp [more_size]at hb2;exact(show Tr.Nx (w.heap.size) [w.heap.size] b from⟨by omega,by simp;omega⟩)));have HP:=hid hp4;clear hr4 hp4 hva))
  refine bodyPost_ret (v:=.agg #[.int .i64 k2,.int .i64 m2,.string ⟨tt2.toArray⟩,.string ⟨o2.toArray⟩,.slice pa na ca,.int .i64 p2]) (by simp [results,Tryz.results233,go_sem,hx2,hf2]) rfl ?_
  exact⟨rd_set6 HR.out (.inr (Nat.le_refl _)) _ _ _ _ _ _,.inl ⟨_,_,_,rfl,Tr.PS.set6 HP.out hB _ _ _ _ _ _,rfl,_,rfl,Tr.Is.nx_out (Tr.Is.nx_set6 HVA.out (.inl (by simp)) _ _ _ _ _ _)⟩⟩
theorem factor_any(en:Int)(n:Nat)(r:Tr.Rc)(hCE:Tr.CE en n r)(hd:Tr.CF 189 en n (Tr.designP en r)):Tr.CF 233 en n (factorP en r):=by
 intro w B bp l hl hp
 by_cases h1:Tr.startT l=1
 ·exact factor_one en n r hd w B bp l h1 hl hp
 by_cases h2:Tr.startT l=2
 ·obtain⟨kd,t2,m,q,hpk,hk,hne⟩:=Tr.start_two (en:=en) h2
  rcases hk with rfl|rfl|rfl|rfl|rfl
  ·exact factor_k3 en r w B bp l m q t2 h2 hpk hne hp
  ·exact factor_k4 en r w B bp l m q t2 h2 hpk hne hp
  ·exact factor_k5 en r w B bp l m q t2 h2 hpk hne hp
  ·exact factor_k2 en n r w B bp l m q t2 h2 hpk hne hCE hl hp
  ·exact factor_k6 en n r w B bp l m q t2 h2 hpk hne hCE hl hp
 ·exact factor_none en r w B bp l h1 h2 hp
end Go.Proofs.YtlhmkfcbldghfaaGreatDoor
