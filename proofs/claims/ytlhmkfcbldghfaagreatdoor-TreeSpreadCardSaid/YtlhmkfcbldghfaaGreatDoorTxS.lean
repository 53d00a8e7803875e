/- The walk of the law TreeSpread. Conditions: the library's variables are as they were laid. -/
import Derived.Test.YtlhmkfcbldghfaaGreatDoorSmJ
import Derived.Test.YtlhmkfcbldghfaaGreatDoorSmA
import Derived.Test.YtlhmkfcbldghfaaGreatDoorTxP
import Derived.Test.YtlhmkfcbldghfaaGreatDoorTrB
import Derived.Test.YtlhmkfcbldghfaaGreatDoorTokRx
import Derived.Test.YtlhmkfcbldghfaaGreatDoorGdA
namespace Go.Proofs.YtlhmkfcbldghfaaGreatDoor
set_option linter.all false
open Go.Lib (hid)
set_option maxRecDepth 1000000
set_option maxHeartbeats 16000000
open Go.RowKit
open Fr (fm_below tyM)
namespace Tr
theorem spread_snoc (l : List Tk.Tok) (t : Tk.Tok) : spreadT (l ++ [t]) = spreadT l ++ (Tk.spell t.1 t.2.1 t.2.2.1 ++ sep):=by simp [spreadT]
theorem mem_allP {α : Type} {P : α → Prop} : ∀ {l : List α},(∀ x ∈ l,P x) → AllP P l
 | [],_ => .nil
 | x :: l,h => .cons (h x (List.mem_cons_self ..)) (mem_allP fun y hy => h y (List.mem_cons_of_mem _ hy))
theorem spread_len : ∀ (l : List Tk.Tok),GL l → (spreadT l).length ≤ 72 * l.length:=by
 intro l hl
 induction hl with
 | nil => simp [spreadT]
 | @cons t l h _ ih =>
  have h2:=(Tk.good_spelt h).2.1
  have e : spreadT (t :: l) = Tk.spell t.1 t.2.1 t.2.2.1 ++ (sep ++ spreadT l):=by simp [spreadT]
  rw [e]
  simp only [List.length_append,List.length_cons]
  have : sep.length = 6:=rfl
  omega
theorem spread_read {s : ByteArray} {m : Mo} {ts : List Tk.Tok} (h1 : Tk.lexR s = .ok ts) (h2 : parsedP (s.size : Int) ts = .ok m) (h3 : limW m = 0) (hl : (spreadT ts).length ≤ 16384) :
  ∃ m',parseR ⟨(spreadT ts).toArray⟩ = .ok m' ∧ SM m m':=by
 have e : ((s.data.toList.length : Nat) : Int) = (s.size : Int):=by simp
 obtain ⟨q,m',hq,hm,hs⟩:=spread_parsed (lexR_lexF h1) (by rw [e];exact h2)
 refine ⟨m',?_,hs⟩
 unfold parseR Tk.lexR
 have hsz : (⟨(spreadT ts).toArray⟩ : ByteArray).size = (spreadT ts).length:=by show (spreadT ts).toArray.size = _;simp
 rw [if_neg (by rw [hsz];omega)]
 have hd : (⟨(spreadT ts).toArray⟩ : ByteArray).data.toList = spreadT ts:=by simp
 rw [hd,hq]
 simp only [hsz,hm]
 rw [if_pos (by rw [← lim_al hs];exact h3)]
end Tr
theorem rlex_data {s : ByteArray} {ts : List Tk.Tok} (h : Tk.lexR s = .ok ts) (W : World) (hs : s.size < 4294967281) :
  Calls Tryz.prog 10 #[.string s] W fun e W' => Below W.heap.size W W' ∧ ∃ v,e = .returned (.tuple #[v,.int .i64 0,.int .i64 0]) ∧ Da.Is W' (fun b => W.heap.size ≤ b) v (.list 4 (ts.map Fr.tkD)):=by
 refine (rlex_any s W hs).mono fun e W' h' => ?_
 rw [h] at h'
 obtain ⟨⟨v,h1,h2,_,h4⟩,g,rfl⟩:=h'
 refine ⟨below_more (Below.refl _ _) (Nat.le_refl _) g,v,h1,Fr.reads_tk h2 ?_⟩
 intro b o n c hv hn
 rcases h4.2 with ⟨rfl,_⟩ | ⟨g',cap,cur,rfl,hg,_⟩
 ·cases hv
 ·cases hv;exact hg
theorem TreeSpread_any (s : ByteArray) (w : World) (hg : Gs w) :
  Calls Tryz.prog 3 #[.string s] w fun e w' => e = .returned (.bool true) ∧ Below w.heap.size w w':=by
 have HG:=hid hg
 have HF:=hid (Fr.fm_start w none (fun _ => True) (by simp) (fun _ _ _ _ h => h) trivial)
 have HW:=hid (fun W hg => wakes10_any W hg)
 clear hg
 by_cases hbig : 2000 < s.size
 ·have hb1 : (2000 : Int) < (s.size : Int):=by omega
  clear hbig
  go_enter Tryz.func3,Tryz.ntmps3
  go_wp2_with (first
   | (go_at_call 7;(with_reducible refine (HW.out _ (HG.out.below (fm_below HF.out))).mono ?_);rintro e W1 ⟨rfl,hb⟩;replace HF:=hid (HF.out.below hb);clear hb))
  refine bodyPost_ret (v:=.bool true) (by simp [results,Tryz.results3,go_sem];try rfl) rfl ⟨rfl,fm_below HF.out⟩
 have hb1 : ¬ (2000 : Int) < (s.size : Int):=by omega
 have hs : s.size < 4294967281:=by omega
 cases hX : Tr.parseR s with
 | error qc =>
  obtain ⟨q,c⟩:=qc
  have hc:=Tr.parse_err hX
  have HP:=hid (fun W hg => parse_no hX hs W hg)
  clear hX hs hbig
  go_enter Tryz.func3,Tryz.ntmps3
  go_wp2_with (first
   | (go_at_call 8;(with_reducible refine (HP.out _ (HG.out.below (fm_below HF.out))).mono ?_);rintro e W1 ⟨hgr,rfl⟩;replace HF:=hid (Fr.Fm.call (Kp':=(fun _ => True)) HF.out hgr (fun _ _ _ _ _ => trivial) trivial);clear hgr)
   | ((with_reducible refine Fr.is_alloc ?_);(first | (refine Fr.wl_alloc HF.out tyM ?_));intro b1 W1 HF1;replace HF:=hid HF1;clear HF1)
   | (first | ((with_reducible refine Fr.is_store (T:=30) ?_);(first | (refine Fr.wl_store 0 HF.out tyM rfl rfl rfl rfl rfl (z4 rfl) (by repeat' (first | exact z3 _ | refine z2 ?_ ?_ | rfl | (refine HF.out.oneM ?_;simp;done) | exact HF.out.rowOne 0 rfl | exact HF.out.rowOne 1 rfl | exact HF.out.rowOne 2 rfl | exact HF.out.rowOne 3 rfl)) ?_));intro W1 HF1;simp only [Fr.setL,z0,z1] at HF1;replace HF:=hid HF1;clear HF1))
   | (first | ((with_reducible refine Fr.is_load (T:=30) ?_);(first | (refine Fr.wl_load 0 HF.out rfl rfl Tryz.underlying30 rfl tyM rfl ?_))))
   | (go_at_call 9;(with_reducible refine (rsame_zero HF.out).mono ?_);rintro e W1 ⟨rfl,HF1⟩;replace HF:=hid HF1;clear HF1)
   | (go_at_call 7;(with_reducible refine (HW.out _ (HG.out.below (fm_below HF.out))).mono ?_);rintro e W1 ⟨rfl,hb⟩;replace HF:=hid (HF.out.below hb);clear hb))
  refine bodyPost_ret (v:=.bool true) (by simp [results,Tryz.results3,go_sem];try rfl) rfl ⟨rfl,fm_below HF.out⟩
 | ok m =>
  obtain ⟨ts,h1,h2,hlim⟩:=Tr.parse_ok hX
  have hgd:=(Tr.lexR_good h1).1
  have hal:=Tr.allP_mem hgd
  have HP:=hid (fun W hg => parse_yes hX hs W hg)
  have HLX:=hid (fun W hs => rlex_data h1 W hs)
  have hmany:=Tr.lex_many s.data.toList.length s.data.toList 0 0 ts (Nat.le_refl _) (by omega) (Tr.lexR_lexF h1)
  have HSP:=hid (fun hl => Tr.spread_read h1 h2 hlim hl)
  obtain ⟨S,hS⟩ : ∃ S : Nat → ByteArray,∀ k,S k = ⟨(Tr.spreadT (ts.take k)).toArray⟩:=⟨_,fun _ => rfl⟩
  have hS0 : S 0 = ⟨#[]⟩:=by rw [hS];simp [Tr.spreadT]
  have HS1:=hid (show ∀ (k : Nat) (hk : k < ts.length),S (k + 1) = S k ++ (⟨(Tk.spell ts[k].1 ts[k].2.1 ts[k].2.2.1).toArray⟩ ++ ⟨#[40,42,120,42,41,10]⟩) from fun k hk => by
   apply bytes_extO
   rw [hS,hS,List.take_succ,List.getElem?_eq_getElem hk]
   simp only [Option.toList_some,Tr.spread_snoc,ByteArray.data_append,Array.toList_append,Tr.sep])
  have HSE:=hid (show S ts.length = ⟨(Tr.spreadT ts).toArray⟩ by rw [hS,List.take_length])
  have HSL:=hid (show ∀ k,(S k).size ≤ 432000 from fun k => by
   have h3 : Tr.GL (ts.take k):=Tr.mem_allP fun x hx => hal x (List.mem_of_mem_take hx)
   have h4:=Tr.spread_len _ h3
   rw [hS]
   show (Tr.spreadT (ts.take k)).toArray.size ≤ _
   have h5 : (ts.take k).length ≤ 6000:=by rw [List.length_take];omega
   simp only [List.size_toArray]
   omega)
  have HO:=hid (show ∀ (k : Nat) (hk : k < ts.length) (W : World),Calls Tryz.prog 11 #[.agg #[.int .i64 ts[k].1,.string ⟨ts[k].2.1.toArray⟩,.int .i64 ts[k].2.2.1,.int .i64 ts[k].2.2.2]] W fun e w' => e = .returned (.string ⟨(Tk.spell ts[k].1 ts[k].2.1 ts[k].2.2.1).toArray⟩) ∧ ∃ g,w' = more W g from fun k hk W =>
   rOne_good ts[k] W (hal _ (List.getElem_mem hk)) (Tr.good_len (hal _ (List.getElem_mem hk))).2.2)
  have HPL:=hid (show ∀ (k : Nat) (hk : k < ts.length),(⟨(Tk.spell ts[k].1 ts[k].2.1 ts[k].2.2.1).toArray⟩ : ByteArray).size ≤ 66 from fun k hk => by
   have h3:=(Tk.good_spelt (hal _ (List.getElem_mem hk))).2.1
   show (Tk.spell ts[k].1 ts[k].2.1 ts[k].2.2.1).toArray.size ≤ 66
   simpa using h3)
  have hSL:=HSL.out
  clear hX hbig h1 h2 hlim hgd hal hS
  go_enter Tryz.func3,Tryz.ntmps3
  go_wp2_with (first
   | (go_at_call 8;(with_reducible refine (HP.out _ (HG.out.below (fm_below HF.out))).mono ?_);rintro e W1 ⟨hgr,v,rfl,hV⟩;obtain ⟨v1,v2,v3,v4,v5,v6,rfl,hd0,hd1,hd2,hd3,hd4,hd5⟩:=Fr.VMo.parts hV;have HF0:=HF.out;have HF2:=Fr.Fm.call (Kp':=(fun _ => True)) HF0 hgr (fun _ _ _ _ _ => trivial) trivial;replace HF:=hid (HF0.since (HF0.since (HF0.since (HF0.since (HF0.since (HF0.since HF2 hd5) hd4) hd3) hd2) hd1) hd0);clear hV hgr HF0 HF2 hd0 hd1 hd2 hd3 hd4 hd5)
   | ((with_reducible refine Fr.is_alloc ?_);(first | (refine Fr.wl_alloc HF.out tyM ?_));intro b1 W1 HF1;replace HF:=hid HF1;clear HF1)
   | (first | ((with_reducible refine Fr.is_store (T:=30) ?_);(first | (refine Fr.wl_store 0 HF.out tyM rfl rfl rfl rfl rfl (z4 rfl) (by repeat' (first | exact z3 _ | refine z2 ?_ ?_ | rfl | (refine HF.out.oneM ?_;simp;done) | exact HF.out.rowOne 0 rfl | exact HF.out.rowOne 1 rfl | exact HF.out.rowOne 2 rfl | exact HF.out.rowOne 3 rfl)) ?_));intro W1 HF1;simp only [Fr.setL,z0,z1] at HF1;replace HF:=hid HF1;clear HF1))
   | (go_at_call 10;(with_reducible refine (HLX.out _ hs).mono ?_);rintro e W1 ⟨hb,tv,rfl,hd⟩;have HF0:=HF.out;replace HF:=hid (HF0.since (HF0.below hb) hd);clear hb hd HF0))
  obtain ⟨tp,tc,rfl,htl,htp⟩:=Fr.Fm.daSlice (m:=0) HF.out rfl
  simp only [List.length_map] at htl htp HF
  try simp only [List.length_map]
  have HTP:=hid htp
  have hn1 : (ts.length : Int) ≤ 9223372036854775807:=by omega
  rw [← hS0]
  clear htp hS0 hSL
  go_loopg [9,10] ts.length (fun gm v9 v10 wr => ∃ k : Nat,gm = ts.length - k ∧ k ≤ ts.length ∧ v9 = .string (S k) ∧ v10 = .int .i64 k ∧ RowKit.Hid (Fr.Fm w none (fun _ => True) wr [.blk b1 [.string ⟨m.name.toArray⟩,v1,v2,v3,v4,v5,v6,.int .i64 m.pos]] ((.slice tp ts.length tc,Da.D.list 4 (ts.map Fr.tkD)) :: (v1,Da.D.list 3 (m.imports.map Tr.imD)) :: (v2,Da.D.list 9 (m.de.consts.map Tr.cnD)) :: (v3,Da.D.list 13 (Tr.fdDs m.de.types)) :: (v4,Da.D.list 13 (Tr.fdDs m.de.vars)) :: (v5,Da.D.list 10 (m.procs.map Tr.prD)) :: (v6,Da.D.list 6 (Tr.stDs m.body)) :: [])))
  case atStart => exact ⟨0,by simp,by omega,rfl,rfl,HF⟩
  case round =>
   clear HF
   obtain ⟨k,hg,hk,rfl,rfl,HF⟩:=hrel
   by_cases hlt : k < ts.length
   ·obtain ⟨b,off,rfl⟩:=HTP.out (by omega)
    have hki : (k : Int) < (ts.length : Int):=by omega
    have hk0 : (0 : Int) ≤ (k : Int):=by omega
    have hk1 : (k : Int) ≤ 9223372036854775807:=by omega
    have hi : (ts.map Fr.tkD)[k]? = some (Fr.tkD ts[k]):=by simp [hlt]
    have HO1:=hid (HO.out k hlt)
    have HS2:=hid (HS1.out k hlt)
    have hP:=HPL.out k hlt
    generalize (⟨(Tk.spell ts[k].1 ts[k].2.1 ts[k].2.2.1).toArray⟩ : ByteArray) = P at HO1 HS2 hP
    have hP1 : (P.size : Int) ≤ 66:=by omega
    generalize ts[k] = t0 at hi HO1
    obtain ⟨tk,tw,tn,tpos⟩:=t0
    unfold Fr.tkD at hi
    have hsz:=HSL.out k
    have hsz1 : ((S k).size : Int) ≤ 432000:=by omega
    go_wp2_with (first
     | ((with_reducible refine Fr.is_load (T:=40) ?_);(refine Fr.wl_loadAt 0 HF.out rfl k rfl (by first | rfl | omega) hi Tryz.underlying40 rfl Fr.tyTok rfl ?_);intro css hrow;obtain ⟨c0,_,rfl,h0,hrow⟩:=Fr.row_inv hrow;obtain ⟨c1,_,rfl,h1,hrow⟩:=Fr.row_inv hrow;obtain ⟨c2,_,rfl,h2,hrow⟩:=Fr.row_inv hrow;obtain ⟨c3,_,rfl,h3,hrow⟩:=Fr.row_inv hrow;obtain rfl:=Fr.row_inv0 hrow;obtain rfl:=Fr.is_int h0;obtain rfl:=Fr.is_str h1;obtain rfl:=Fr.is_int h2;obtain rfl:=Fr.is_int h3;clear h0 h1 h2 h3 hrow)
     | (go_at_call 11;(with_reducible refine (HO1.out _).mono ?_);rintro e W1 ⟨rfl,gm,rfl⟩;replace HF:=hid (HF.out.below (below_more (Below.refl _ _) (Nat.le_refl _) gm));generalize Go.Proofs.YtlhmkfcbldghfaaGreatDoor.more _ gm = W1 at HF ⊢))
    go_roundg (ts.length - (k + 1))
    case rel => exact ⟨k + 1,rfl,hlt,by rw [HS2.out],by simp,HF⟩
    case measure => omega
   ·have hki : ¬ (k : Int) < (ts.length : Int):=by omega
    obtain rfl : k = ts.length:=by omega
    have hsz:=HSL.out ts.length
    by_cases hl : 16384 < (S ts.length).size
    ·have hl1 : (16384 : Int) < ((S ts.length).size : Int):=by omega
     go_wp2_with (first
      | (go_at_call 7;(with_reducible refine (HW.out _ (HG.out.below (fm_below HF.out))).mono ?_);rintro e W1 ⟨rfl,hb⟩;replace HF:=hid (HF.out.below hb);clear hb))
     refine bodyPost_ret (v:=.bool true) (by simp [results,Tryz.results3,go_sem];try rfl) rfl ⟨rfl,fm_below HF.out⟩
    ·have hl1 : ¬ (16384 : Int) < ((S ts.length).size : Int):=by omega
     obtain ⟨m2,hm2,hsm⟩:=HSP.out (by have h3:=hl;rw [HSE.out] at h3;have h4 : (⟨(Tr.spreadT ts).toArray⟩ : ByteArray).size = (Tr.spreadT ts).length:=(by show (Tr.spreadT ts).toArray.size = _;simp);rw [h4] at h3;omega)
     rw [← HSE.out] at hm2
     have HP2:=hid (fun W hg => parse_yes hm2 (by omega) W hg)
     have HSM:=hid hsm
     clear hm2 hsm hl
     go_wp2_with (first
      | (go_at_call 8;(with_reducible refine (HP2.out _ (HG.out.below (fm_below HF.out))).mono ?_);rintro e W1 ⟨hgr,v,rfl,hV⟩;obtain ⟨u1,u2,u3,u4,u5,u6,rfl,hd0,hd1,hd2,hd3,hd4,hd5⟩:=Fr.VMo.parts hV;have HF0:=HF.out;have HF2:=Fr.Fm.call (Kp':=(fun _ => True)) HF0 hgr (fun _ _ _ _ _ => trivial) trivial;replace HF:=hid (HF0.since (HF0.since (HF0.since (HF0.since (HF0.since (HF0.since HF2 hd5) hd4) hd3) hd2) hd1) hd0);clear hV hgr HF0 HF2 hd0 hd1 hd2 hd3 hd4 hd5)
      | ((with_reducible refine Fr.is_alloc ?_);(first | (refine Fr.wl_alloc HF.out tyM ?_));intro b2 W1 HF1;replace HF:=hid HF1;clear HF1)
      | (first | ((with_reducible refine Fr.is_store (T:=30) ?_);(first | (refine Fr.wl_store 0 HF.out tyM rfl rfl rfl rfl rfl (z4 rfl) (by repeat' (first | exact z3 _ | refine z2 ?_ ?_ | rfl | (refine HF.out.oneM ?_;simp;done) | exact HF.out.rowOne 0 rfl | exact HF.out.rowOne 1 rfl | exact HF.out.rowOne 2 rfl | exact HF.out.rowOne 3 rfl)) ?_));intro W1 HF1;simp only [Fr.setL,z0,z1] at HF1;replace HF:=hid HF1;clear HF1))
      | ((with_reducible refine Fr.is_loadW (T:=30) ?_);(refine Fr.wl_want (by rfl) ?_);(first | (refine Fr.wl_load 0 HF.out rfl rfl Tryz.underlying30 rfl tyM rfl ?_) | (refine Fr.wl_load 1 HF.out rfl rfl Tryz.underlying30 rfl tyM rfl ?_)))
      | (go_at_call 9;(refine (rsame_any m m2 v1 v2 v3 v4 v5 v6 u1 u2 u3 u4 u5 u6 (Ds:=[]) (Tr.moS_al HSM.out) (HF.out.pick [0,1] [7,8,9,10,11,12,0,1,2,3,4,5] (by decide) (by simp) (by simp))).mono ?_);rintro e W1 ⟨rfl,HF1⟩;replace HF:=hid HF1;clear HF1)
      | (go_at_call 7;(with_reducible refine (HW.out _ (HG.out.below (fm_below HF.out))).mono ?_);rintro e W1 ⟨rfl,hb⟩;replace HF:=hid (HF.out.below hb);clear hb))
     refine bodyPost_ret (v:=.bool true) (by simp [results,Tryz.results3,go_sem];try rfl) rfl ⟨rfl,fm_below HF.out⟩
end Go.Proofs.YtlhmkfcbldghfaaGreatDoor
