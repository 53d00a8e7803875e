/- The walk of the document's Same at two empty modules,with places;tokens as data. Conditions: none. -/
import Derived.Test.YtlhmkfcbldghfaaGreatDoorSmH
namespace Go.Proofs.YtlhmkfcbldghfaaGreatDoor
set_option linter.all false
open Go.Lib (hid)
set_option maxRecDepth 1000000
set_option maxHeartbeats 16000000
open Go.RowKit
open Fr (zM)
theorem rsame_zero {w W : World} {g : Option Nat} {Kp : World → Prop} {R : List Fr.RI} {Ds : List (Value × Da.D)} (h : Fr.Fm w g Kp W R Ds) :
  Calls Tryz.prog 9 #[.agg Fr.zM.toArray,.agg Fr.zM.toArray,.bool true] W fun e W' => e = .returned (.bool true) ∧ Fr.Fm w g Kp W' R Ds:=by
 have h1:=(((h.plus (Fr.is_nil 9)).plus (Fr.is_nil 13)).plus (Fr.is_nil 6))
 have HF:=hid h1
 clear h h1
 have HM0:=hid trivial
 go_enter Tryz.func9,Tryz.ntmps9
 go_wp2_with (first
  | (first | (clear HM0;(with_reducible refine Fr.is_box ?_);refine Fr.wl_box HF.out rfl rfl ?_;intro ba0 W1 HF1;replace HF:=hid HF1;clear HF1) | ((with_reducible refine Fr.is_box ?_);refine Fr.wl_box HF.out rfl rfl ?_;intro bb0 W1 HF1;replace HF:=hid HF1;clear HF1;have e0:=HF.out.cellAt 1 rfl 0 rfl;have f0:=HF.out.cellAt 0 rfl 0 rfl;have e1:=HF.out.cellAt 1 rfl 1 rfl;have f1:=HF.out.cellAt 0 rfl 1 rfl;have e2:=HF.out.cellAt 1 rfl 2 rfl;have f2:=HF.out.cellAt 0 rfl 2 rfl;have e3:=HF.out.cellAt 1 rfl 3 rfl;have f3:=HF.out.cellAt 0 rfl 3 rfl;have e4:=HF.out.cellAt 1 rfl 4 rfl;have f4:=HF.out.cellAt 0 rfl 4 rfl;have e5:=HF.out.cellAt 1 rfl 5 rfl;have f5:=HF.out.cellAt 0 rfl 5 rfl;have e6:=HF.out.cellAt 1 rfl 6 rfl;have f6:=HF.out.cellAt 0 rfl 6 rfl;have e7:=HF.out.cellAt 1 rfl 7 rfl;have f7:=HF.out.cellAt 0 rfl 7 rfl))
  | (go_at_call 20;(with_reducible refine (rconsts_all [] [] true 2 2 _ _ rfl rfl rfl (fun _ => rfl) HF.out).mono ?_);rintro e W3 ⟨rfl,HF1⟩;replace HF:=hid HF1;clear HF1;have e0:=HF.out.cellAt 1 rfl 0 rfl;have f0:=HF.out.cellAt 0 rfl 0 rfl;have e1:=HF.out.cellAt 1 rfl 1 rfl;have f1:=HF.out.cellAt 0 rfl 1 rfl;have e2:=HF.out.cellAt 1 rfl 2 rfl;have f2:=HF.out.cellAt 0 rfl 2 rfl;have e3:=HF.out.cellAt 1 rfl 3 rfl;have f3:=HF.out.cellAt 0 rfl 3 rfl;have e4:=HF.out.cellAt 1 rfl 4 rfl;have f4:=HF.out.cellAt 0 rfl 4 rfl;have e5:=HF.out.cellAt 1 rfl 5 rfl;have f5:=HF.out.cellAt 0 rfl 5 rfl;have e6:=HF.out.cellAt 1 rfl 6 rfl;have f6:=HF.out.cellAt 0 rfl 6 rfl;have e7:=HF.out.cellAt 1 rfl 7 rfl;have f7:=HF.out.cellAt 0 rfl 7 rfl)
  | (go_at_call 21;(with_reducible refine (rtdecls_all [] [] true 1 1 _ _ rfl rfl rfl (fun _ => rfl) HF.out).mono ?_);rintro e W3 ⟨rfl,HF1⟩;replace HF:=hid HF1;clear HF1;have e0:=HF.out.cellAt 1 rfl 0 rfl;have f0:=HF.out.cellAt 0 rfl 0 rfl;have e1:=HF.out.cellAt 1 rfl 1 rfl;have f1:=HF.out.cellAt 0 rfl 1 rfl;have e2:=HF.out.cellAt 1 rfl 2 rfl;have f2:=HF.out.cellAt 0 rfl 2 rfl;have e3:=HF.out.cellAt 1 rfl 3 rfl;have f3:=HF.out.cellAt 0 rfl 3 rfl;have e4:=HF.out.cellAt 1 rfl 4 rfl;have f4:=HF.out.cellAt 0 rfl 4 rfl;have e5:=HF.out.cellAt 1 rfl 5 rfl;have f5:=HF.out.cellAt 0 rfl 5 rfl;have e6:=HF.out.cellAt 1 rfl 6 rfl;have f6:=HF.out.cellAt 0 rfl 6 rfl;have e7:=HF.out.cellAt 1 rfl 7 rfl;have f7:=HF.out.cellAt 0 rfl 7 rfl)
  | (go_at_call 22;(with_reducible refine (rvars_all [] [] true 1 1 _ _ rfl rfl rfl (fun _ => rfl) HF.out).mono ?_);rintro e W3 ⟨rfl,HF1⟩;replace HF:=hid HF1;clear HF1;have e0:=HF.out.cellAt 1 rfl 0 rfl;have f0:=HF.out.cellAt 0 rfl 0 rfl;have e1:=HF.out.cellAt 1 rfl 1 rfl;have f1:=HF.out.cellAt 0 rfl 1 rfl;have e2:=HF.out.cellAt 1 rfl 2 rfl;have f2:=HF.out.cellAt 0 rfl 2 rfl;have e3:=HF.out.cellAt 1 rfl 3 rfl;have f3:=HF.out.cellAt 0 rfl 3 rfl;have e4:=HF.out.cellAt 1 rfl 4 rfl;have f4:=HF.out.cellAt 0 rfl 4 rfl;have e5:=HF.out.cellAt 1 rfl 5 rfl;have f5:=HF.out.cellAt 0 rfl 5 rfl;have e6:=HF.out.cellAt 1 rfl 6 rfl;have f6:=HF.out.cellAt 0 rfl 6 rfl;have e7:=HF.out.cellAt 1 rfl 7 rfl;have f7:=HF.out.cellAt 0 rfl 7 rfl)
  | (go_at_call 23;(with_reducible refine (rstats_all [] [] true 0 0 _ _ rfl rfl rfl (fun _ => rfl) HF.out).mono ?_);rintro e W3 ⟨rfl,HF1⟩;replace HF:=hid HF1;clear HF1;have e0:=HF.out.cellAt 1 rfl 0 rfl;have f0:=HF.out.cellAt 0 rfl 0 rfl;have e1:=HF.out.cellAt 1 rfl 1 rfl;have f1:=HF.out.cellAt 0 rfl 1 rfl;have e2:=HF.out.cellAt 1 rfl 2 rfl;have f2:=HF.out.cellAt 0 rfl 2 rfl;have e3:=HF.out.cellAt 1 rfl 3 rfl;have f3:=HF.out.cellAt 0 rfl 3 rfl;have e4:=HF.out.cellAt 1 rfl 4 rfl;have f4:=HF.out.cellAt 0 rfl 4 rfl;have e5:=HF.out.cellAt 1 rfl 5 rfl;have f5:=HF.out.cellAt 0 rfl 5 rfl;have e6:=HF.out.cellAt 1 rfl 6 rfl;have f6:=HF.out.cellAt 0 rfl 6 rfl;have e7:=HF.out.cellAt 1 rfl 7 rfl;have f7:=HF.out.cellAt 0 rfl 7 rfl))
 clear e0 e1 e2 e3 e4 e5 e6 e7 f0 f1 f2 f3 f4 f5 f6 f7
 go_loopg [7] 0 (fun gm v7 wr => v7 = .int .i64 0 ∧ RowKit.Hid (Fr.Fm w g Kp wr (.blk bb0 zM :: .blk ba0 zM :: R) ((.slice none 0 0,Da.D.list 6 []) :: (.slice none 0 0,Da.D.list 13 []) :: (.slice none 0 0,Da.D.list 9 []) :: Ds)))
 case atStart => exact ⟨rfl,HF⟩
 case round =>
  clear HF
  obtain ⟨rfl,HF⟩:=hrel
  have eL:=HF.out.cellAt 1 rfl 1 rfl
  go_wp2
  clear eL
  go_loopg [10] 0 (fun gm v7 wr => v7 = .int .i64 0 ∧ RowKit.Hid (Fr.Fm w g Kp wr (.blk bb0 zM :: .blk ba0 zM :: R) ((.slice none 0 0,Da.D.list 6 []) :: (.slice none 0 0,Da.D.list 13 []) :: (.slice none 0 0,Da.D.list 9 []) :: Ds)))
  case atStart => exact ⟨rfl,HF⟩
  case round =>
   clear HF
   obtain ⟨rfl,HF⟩:=hrel
   have eL:=HF.out.cellAt 1 rfl 5 rfl
   go_wp2
   refine bodyPost_ret (v:=.bool true) (by simp [results,Tryz.results9,go_sem];try rfl) rfl ⟨rfl,HF.out.lessR.lessR.less.less.less⟩
namespace Fr
open Da Tr
def tkD (t : Tok) : List D:=[.int t.1,.str t.2.1,.int t.2.2.1,.int t.2.2.2]
theorem reads_tk {W : World} {B : Nat} {v : Value} {ts : List Tok} (h : Reads W v ts.length 4 (tkCells ts)) (hb : ∀ b o n c,v = .slice (some ⟨b,o,none⟩) n c → 0 < n → B ≤ b) : Is W (fun b => B ≤ b) v (.list 4 (ts.map tkD)):=by
 rcases h.2 with ⟨h0,p,c,rfl,hc⟩ | ⟨b,off,cap,rfl,h1,h2,h3,h4⟩
 ·have : ts = []:=List.eq_nil_of_length_eq_zero h0
  subst this
  exact .nil _ _ _ hc
 ·by_cases hne : ts = []
  ·subst hne
   exact .nil _ _ _ h2
  ·have hl : 0 < ts.length:=List.length_pos_iff.2 hne
   have h5:=Is.list (w:=W) (P:=fun b => B ≤ b) b off cap 4 (ts.map tkD) (fun k j => (tkCells ts).getD (k * 4 + j) undef) (by simpa using hne) (hb _ _ _ _ rfl hl) h3 (by simpa using h1) h2 (fun k row hk => by
    simp only [List.getElem?_map,Option.map_eq_some_iff] at hk
    obtain ⟨t,_,rfl⟩:=hk
    rfl) (fun k row j d hk hj => by
    simp only [List.getElem?_map,Option.map_eq_some_iff] at hk
    obtain ⟨t,ht,rfl⟩:=hk
    have hv : ∃ v,(tkCell t)[j]? = some v:=by
     match j,hj with
     | 0,_ => exact ⟨_,rfl⟩
     | 1,_ => exact ⟨_,rfl⟩
     | 2,_ => exact ⟨_,rfl⟩
     | 3,_ => exact ⟨_,rfl⟩
    obtain ⟨v,hv⟩:=hv
    have h6:=tkCells_at ts k t j v ht hv
    rw [h4 _ _ h6,List.getD_eq_getElem?_getD,h6];rfl) (fun k row j d hk hj => by
    simp only [List.getElem?_map,Option.map_eq_some_iff] at hk
    obtain ⟨t,ht,rfl⟩:=hk
    match j,hj with
    | 0,hj =>
     simp only [tkD,List.getElem?_cons_zero,Option.some.injEq] at hj
     subst hj
     rw [List.getD_eq_getElem?_getD,tkCells_at ts k t 0 _ ht rfl];exact .int _
    | 1,hj =>
     simp only [tkD,List.getElem?_cons_succ,List.getElem?_cons_zero,Option.some.injEq] at hj
     subst hj
     rw [List.getD_eq_getElem?_getD,tkCells_at ts k t 1 _ ht rfl];exact .str _
    | 2,hj =>
     simp only [tkD,List.getElem?_cons_succ,List.getElem?_cons_zero,Option.some.injEq] at hj
     subst hj
     rw [List.getD_eq_getElem?_getD,tkCells_at ts k t 2 _ ht rfl];exact .int _
    | 3,hj =>
     simp only [tkD,List.getElem?_cons_succ,List.getElem?_cons_zero,Option.some.injEq] at hj
     subst hj
     rw [List.getD_eq_getElem?_getD,tkCells_at ts k t 3 _ ht rfl];exact .int _)
   simpa using h5
end Fr
end Go.Proofs.YtlhmkfcbldghfaaGreatDoor
