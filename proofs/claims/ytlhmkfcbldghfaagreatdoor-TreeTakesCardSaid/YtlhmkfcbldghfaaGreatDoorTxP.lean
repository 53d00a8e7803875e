/- The walk of tree.Parse: a text is read as its plain reading tells. Conditions: the library's variables are as they were laid;the text's size is bounded. -/
import Derived.Test.YtlhmkfcbldghfaaGreatDoorTkD
import Derived.Test.YtlhmkfcbldghfaaGreatDoorTwY
import Derived.Test.YtlhmkfcbldghfaaGreatDoorTrA
import Derived.Test.YtlhmkfcbldghfaaGreatDoorTkA
import Derived.KernelRfl
namespace Go.Proofs.YtlhmkfcbldghfaaGreatDoor
set_option linter.all false
open Go.Lib (hid)
set_option maxRecDepth 1000000
set_option maxHeartbeats 16000000
open Go.RowKit
open Fr (is_alloc is_store setL tyM wl_alloc wl_store)
namespace Tr
def parseR(s:ByteArray):Except (Int × Int) Mo:=
 match Tk.lexR s with
 | .error (p,c) => .error ((p:Int),c)
 | .ok ts=>match parsedP (s.size:Int) ts with
  | .error q => .error (q,100)
  | .ok m=>if limW m=0 then .ok m else .error (0,limW m)
theorem lim_cases(m:Mo):limW m=0∨limW m=3∨limW m=4:=by
 unfold limW
 split
 ·exact .inr (.inl rfl)
 ·split
  ·exact .inr (.inr rfl)
  ·exact .inl rfl
theorem lex_no_zero{s:ByteArray}{p:Nat}{c:Int}(h:Tk.lexR s=.error (p,c)):(c != 0)=true∧p≤s.size:=by
 unfold Tk.lexR at h
 split at h
 ·cases h;exact⟨rfl,by omega⟩
 ·have h1:=Tk.lex_err_at _ _ _ _ _ h
  have h2:=h1.2.1
  simp at h2
  exact⟨by simp [h1.2.2],by omega⟩
theorem allP_mem{α:Type}{P:α→Prop}{l:List α}(h:AllP P l):∀ x∈l,P x:=by
 induction h with
 | nil=>intro x hx;cases hx
 | cons h1 _ ih=>intro x hx;rcases List.mem_cons.1 hx with rfl|hx;exact h1;exact ih x hx
theorem keys_len:(Tk.keys.all fun k=>decide (k.length≤24))=true:=by decide +kernel
theorem signs_len:(Tk.signs2.all fun k=>decide (k.length≤24))=true:=by decide +kernel
theorem good_len{kd n:Int}{w:List UInt8}(h:Tk.Good kd w n):0≤kd∧kd≤6∧w.length≤64:=by
 unfold Tk.Good at h
 rcases h with⟨rfl,_,h,_⟩|⟨rfl,_,h⟩|⟨rfl,rfl,_⟩|⟨rfl,rfl,_⟩|⟨rfl,_,h,_⟩|⟨rfl,_,h⟩
 ·unfold Tk.word at h
  simp only [Bool.and_eq_true,decide_eq_true_eq]at h
  exact⟨by omega,by omega,by omega⟩
 ·have:=List.all_eq_true.1 keys_len w h
  simp only [decide_eq_true_eq]at this
  exact⟨by omega,by omega,by omega⟩
 ·exact⟨by omega,by omega,by simp⟩
 ·exact⟨by omega,by omega,by simp⟩
 ·exact⟨by omega,by omega,h⟩
 ·refine⟨by omega,by omega,?_⟩
  rcases h with h|⟨c,rfl,_⟩
  ·have:=List.all_eq_true.1 signs_len w h
   simp only [decide_eq_true_eq]at this
   omega
  ·simp
theorem lexR_lexF{s:ByteArray}{ts:List Tok}(h:Tk.lexR s=.ok ts):Tk.lexF s.data.toList 0 0=.ok ts:=by
 unfold Tk.lexR at h
 split at h
 ·cases h
 ·exact h
theorem lexR_good{s:ByteArray}{ts:List Tok}(h:Tk.lexR s=.ok ts):GL ts∧Ris (s.size:Int) ts:=by
 have h1:=lex_good (lexR_lexF h)
 have e:(s.data.toList.length:Int)=(s.size:Int):=by simp
 rw [e]at h1
 exact h1
theorem tok_ok{s:ByteArray}{ts:List Tok}(h:Tk.lexR s=.ok ts):∀ t∈ts,0≤t.1∧t.1≤6∧t.2.1.length≤100000:=by
 intro t ht
 have h1:=good_len (allP_mem (lexR_good h).1 t ht)
 exact⟨h1.1,h1.2.1,by omega⟩
end Tr
namespace Fr
open Da Tr
theorem fm_resM{P:Program}{w W:World}{g:Option Nat}{Kp:World→Prop}{R:List RI}{Ds:List (Value × D)}{fn:Func}{p t u:Tmp}{T:TypeId}(k:Nat)(h:Fm w g Kp W R Ds)(hf:fn.results=#[.cell p T,.tmp t,.tmp u]){tmps:Array Value}{b:Nat}{cs:List Value}(hp:tmps.getD p undef=.pointer (some ⟨b,0,none⟩))(hk:R[k]?=some (.blk b cs)){d:TypeDesc}(hu:P.underlying T=some d)(hd:d.isRow=true){z:List Value}{bytes:Nat}(hT:TyIs P T z bytes)(hz:cs.length=z.length){v x:Value}(hv:tmps.getD t undef=v)(hx:tmps.getD u undef=x) :
  (results fn tmps).run P W=.ok (.tuple #[.agg cs.toArray,v,x]) W:=by
 obtain⟨i,iv,hi,_,_,hs,_⟩:=hT.info
 obtain⟨ty,hb⟩:=h.at k hk
 have hp':tmps[p]?.getD undef=.pointer (some ⟨b,0,none⟩):=by simpa using hp
 have hv':tmps[t]?.getD undef=v:=by simpa using hv
 have hx':tmps[u]?.getD undef=x:=by simpa using hx
 have hr:=run_loadVar_row (P:=P) W b ty T cs.toArray (0,0) d hb hu (by cases d <;> simp_all) (by rw [hi];simp [hs,hz])
 simp [results,hf,hp',hv',hx',asAddr,hr]
def ParseIs(w:World)(x:Except (Int × Int) Mo)(e:Ending)(w':World):Prop:=
 w.grownBy w' none∧match x with
  | .ok m=>∃ v,e=.returned (.tuple #[v,.int .i64 0,.int .i64 0])∧VMo w.heap.size w' v m
  | .error (q,c)=>e=.returned (.tuple #[.agg zM.toArray,.int .i64 q,.int .i64 c])
theorem fm_below{w W:World}{Kp:World→Prop}{R:List RI}{Ds:List (Value × D)}(h:Fm w none Kp W R Ds):Below w.heap.size w W:=⟨h.gr.os,h.gr.tape,h.gr.output,h.gr.size,fun k hk=>h.gr.block k hk (by simp)⟩
end Fr
theorem parse_any(s:ByteArray)(w:World)(hg:Gs w)(hs:s.size<4294967281):Calls Tryz.prog 8 #[.string s] w (Fr.ParseIs w (Tr.parseR s)):=by
 obtain⟨X,hX⟩:∃ X,X=Tr.parseR s:=⟨_,rfl⟩
 rw [← hX]
 unfold Tr.parseR at hX
 have HG:=hid hg
 have HF:=hid (Fr.fm_start w none (fun _=>True) (by simp) (fun _ _ _ _ h=>h) trivial)
 have HLX:=hid (fun(W:World) (hg:Gs W) hs=>lex_any s W hg hs)
 clear hg
 cases hL:Tk.lexR s with
 | error pc =>
  obtain⟨p,c⟩:=pc
  have hc:=(Tr.lex_no_zero hL).1
  rw [hL]at hX HLX
  replace hX:X=.error ((p:Int),c):=hX
  have HX:=hid hX
  simp only [Tk.LexRet]at HLX
  clear hX hL
  go_enter Tryz.func8,Tryz.ntmps8
  go_wp2_with (first
   | ((with_reducible refine is_alloc ?_);(first|(refine wl_alloc HF.out tyM ?_));intro b2 W1 HF1;replace HF:=hid HF1;clear HF1)
   | (go_at_call 17;(with_reducible refine(HLX.out _ (HG.out.below (Fr.fm_below HF.out)) hs).mono ?_);rintro e W1 ⟨rfl,gm,rfl⟩;replace HF:=hid (HF.out.below (below_more (Below.refl _ _) (Nat.le_refl _) gm));generalize Go.Proofs.YtlhmkfcbldghfaaGreatDoor.more _ gm=W1 at HF ⊢)
   | (first|((with_reducible refine is_store (T:=30) ?_);(first|(refine wl_store 0 HF.out tyM rfl rfl rfl rfl rfl (z4 rfl) oT ?_));intro W1 HF1;simp only [setL,z0,z1]at HF1;replace HF:=hid HF1;clear HF1)))
  refine bodyPost_ret (Fr.fm_resM 0 HF.out Tryz.results8 rfl rfl Tryz.underlying30 rfl tyM rfl rfl rfl) rfl ?_
  rw [HX.out]
  exact⟨HF.out.gr,rfl⟩
 | ok ts =>
  have htk:=Tr.tok_ok hL
  rw [hL]at hX HLX
  have hX1:X=match Tr.parsedP (s.size:Int) ts with | .error q => .error (q,100) | .ok m=>if Tr.limW m=0 then .ok m else .error (0,Tr.limW m):=hX
  have HLX:RowKit.Hid (∀(W:World),Gs W→s.size<4294967281→Calls Tryz.prog 17 #[.string s] W fun e w'=>(∃ v,e=.returned (.tuple #[v,.int .i64 0,.int .i64 0])∧(Reads w' v ts.length 4 (Tr.tkCells ts)∧ts.length≤6000))∧∃ g,w'=more W g):=
   hid (fun W hg hs=>(HLX.out W hg hs).mono fun e w' ⟨⟨v,h1,h2,h3,_⟩,h4⟩=>⟨⟨v,h1,h2,h3⟩,h4⟩)
  have HPA:=hid (fun(W:World) (tv:Value) (h:Reads W tv ts.length 4 (Tr.tkCells ts)∧ts.length≤6000)=>parsed_any W tv ts (s.size:Int) h.1 h.2 htk)
  clear hX hL htk
  have HRD:RowKit.Hid True:=hid trivial
  cases hP:Tr.parsedP (s.size:Int) ts with
  | error q =>
   rw [hP]at hX1 HPA
   have HX:=hid hX1
   replace HPA:RowKit.Hid (∀(W:World) (tv:Value),Reads W tv ts.length 4 (Tr.tkCells ts)∧ts.length≤6000→Calls Tryz.prog 18 #[tv,.int .i64 (s.size:Int)] W fun e w'=>W.grownBy w' none∧e=.returned (.tuple #[.agg Fr.zM.toArray,.int .i64 q,.int .i64 100])):=hid (fun W tv h=>(HPA.out W tv h).mono fun e w' hh=>hh)
   clear hX1 hP
   go_enter Tryz.func8,Tryz.ntmps8
   go_wp2_with (first
    | ((with_reducible refine is_alloc ?_);(first|(refine wl_alloc HF.out tyM ?_));intro b2 W1 HF1;replace HF:=hid HF1;clear HF1)
    | (go_at_call 17;(with_reducible refine(HLX.out _ (HG.out.below (Fr.fm_below HF.out)) hs).mono ?_);rintro e W1 ⟨⟨tv,rfl,hrd⟩,gm,rfl⟩;replace HF:=hid (HF.out.below (below_more (Below.refl _ _) (Nat.le_refl _) gm));generalize Go.Proofs.YtlhmkfcbldghfaaGreatDoor.more _ gm=W1 at HF hrd ⊢;replace HRD:=hid hrd;clear hrd)
    | (go_at_call 18;(with_reducible refine(HPA.out _ _ HRD.out).mono ?_);rintro e W1 ⟨hgr,rfl⟩;replace HF:=hid (Fr.Fm.call (Kp':=(fun _=>True)) HF.out hgr (fun _ _ _ _ _=>trivial) trivial);clear hgr)
    | (first|((with_reducible refine is_store (T:=30) ?_);(first|(refine wl_store 0 HF.out tyM rfl rfl rfl rfl rfl (z4 rfl) oT ?_)|(refine wl_store 1 HF.out tyM rfl rfl rfl rfl rfl (z4 rfl) oT ?_));intro W1 HF1;simp only [setL,z0,z1]at HF1;replace HF:=hid HF1;clear HF1)))
   refine bodyPost_ret (Fr.fm_resM 1 HF.out Tryz.results8 rfl rfl Tryz.underlying30 rfl tyM rfl rfl rfl) rfl ?_
   rw [HX.out]
   exact⟨HF.out.gr,rfl⟩
  | ok m =>
   rw [hP]at hX1 HPA
   replace HPA:RowKit.Hid (∀(W:World) (tv:Value),Reads W tv ts.length 4 (Tr.tkCells ts)∧ts.length≤6000→Calls Tryz.prog 18 #[tv,.int .i64 (s.size:Int)] W fun e w'=>W.grownBy w' none∧∃ v,e=.returned (.tuple #[v,.int .i64 0,.int .i64 0])∧Fr.VMo W.heap.size w' v m):=hid (fun W tv h=>(HPA.out W tv h).mono fun e w' hh=>hh)
   have HLM:RowKit.Hid (∀(w W:World) (g:Option Nat) (Kp:World→Prop) (R:List Fr.RI) (Ds:List (Value × Da.D)) (nm:ByteArray) (v1 v2 v3 v4 v5 v6:Value) (ps:Int),Fr.Fm w g Kp W R (Tr.moDs m v1 v2 v3 v4 v5 v6 Ds)→Calls Tryz.prog 19 #[.agg #[.string nm,v1,v2,v3,v4,v5,v6,.int .i64 ps]] W fun e W'=>e=.returned (.int .i64 (Tr.limW m))∧Fr.Fm w g Kp W' R (Tr.moDs m v1 v2 v3 v4 v5 v6 Ds)):=hid (fun w W g Kp R Ds nm v1 v2 v3 v4 v5 v6 ps h=>limited_any m nm v1 v2 v3 v4 v5 v6 ps h)
   replace hX1:X=if Tr.limW m=0 then .ok m else .error (0,Tr.limW m):=hX1
   have hlc:=Tr.lim_cases m
   generalize Tr.limW m=lm at hX1 HLM hlc
   have HX:=hid (show X=if lm=0 then .ok m else .error (0,lm)from hX1)
   clear hX1 hP
   by_cases h0:lm=0
   ·subst h0
    have HX:=hid (show X=.ok m from HX.out)
    go_enter Tryz.func8,Tryz.ntmps8
    go_wp2_with (first
     | ((with_reducible refine is_alloc ?_);(first|(refine wl_alloc HF.out tyM ?_));intro b2 W1 HF1;replace HF:=hid HF1;clear HF1)
     | (go_at_call 17;(with_reducible refine(HLX.out _ (HG.out.below (Fr.fm_below HF.out)) hs).mono ?_);rintro e W1 ⟨⟨tv,rfl,hrd⟩,gm,rfl⟩;replace HF:=hid (HF.out.below (below_more (Below.refl _ _) (Nat.le_refl _) gm));generalize Go.Proofs.YtlhmkfcbldghfaaGreatDoor.more _ gm=W1 at HF hrd ⊢;replace HRD:=hid hrd;clear hrd)
     | (go_at_call 18;(with_reducible refine(HPA.out _ _ HRD.out).mono ?_);rintro e W1 ⟨hgr,v,rfl,hV⟩;obtain⟨v1,v2,v3,v4,v5,v6,rfl,hd0,hd1,hd2,hd3,hd4,hd5⟩:=Fr.VMo.parts hV;have HF0:=HF.out;have HF2:=Fr.Fm.call (Kp':=(fun _=>True)) HF0 hgr (fun _ _ _ _ _=>trivial) trivial;replace HF:=hid (HF0.since (HF0.since (HF0.since (HF0.since (HF0.since (HF0.since HF2 hd5) hd4) hd3) hd2) hd1) hd0);clear hV hgr HF0 HF2 hd0 hd1 hd2 hd3 hd4 hd5)
     | (go_at_call 19;(with_reducible refine(HLM.out _ _ _ _ _ _ _ _ _ _ _ _ _ _ HF.out).mono ?_);rintro e W1 ⟨rfl,HF1⟩;replace HF:=hid HF1;clear HF1)
     | (first|((with_reducible refine is_store (T:=30) ?_);(first|(refine wl_store 0 HF.out tyM rfl rfl rfl rfl rfl (z4 rfl) oT ?_)|(refine wl_store 1 HF.out tyM rfl rfl rfl rfl rfl (z4 rfl) oT ?_));intro W1 HF1;simp only [setL,z0,z1]at HF1;replace HF:=hid HF1;clear HF1))
     | (first|((with_reducible refine Fr.is_load (T:=30) ?_);(first|(refine Fr.wl_load 0 HF.out rfl rfl Tryz.underlying30 rfl tyM rfl ?_)))))
    refine bodyPost_ret (Fr.fm_resM 1 HF.out Tryz.results8 rfl rfl Tryz.underlying30 rfl tyM rfl rfl rfl) rfl ?_
    rw [HX.out]
    refine⟨HF.out.gr,_,rfl,_,rfl,?_⟩
    unfold Tr.moD
    (repeat' (first|exact Da.row_nil _ _|exact Da.Is.int _|exact Da.Is.str _|exact HF.out.out 0 rfl|exact HF.out.out 1 rfl|exact HF.out.out 2 rfl|exact HF.out.out 3 rfl|exact HF.out.out 4 rfl|exact HF.out.out 5 rfl|refine Da.row_cons ?_ ?_))
   ·have hne:(lm != 0)=true:=by simp [h0]
    have heq:(lm == 0)=false:=by simp [h0]
    have HX:=hid (show X=.error (0,lm)from by rw [HX.out,if_neg h0])
    clear hlc h0
    go_enter Tryz.func8,Tryz.ntmps8
    go_wp2_with (first
     | ((with_reducible refine is_alloc ?_);(first|(refine wl_alloc HF.out tyM ?_));intro b2 W1 HF1;replace HF:=hid HF1;clear HF1)
     | (go_at_call 17;(with_reducible refine(HLX.out _ (HG.out.below (Fr.fm_below HF.out)) hs).mono ?_);rintro e W1 ⟨⟨tv,rfl,hrd⟩,gm,rfl⟩;replace HF:=hid (HF.out.below (below_more (Below.refl _ _) (Nat.le_refl _) gm));generalize Go.Proofs.YtlhmkfcbldghfaaGreatDoor.more _ gm=W1 at HF hrd ⊢;replace HRD:=hid hrd;clear hrd)
     | (go_at_call 18;(with_reducible refine(HPA.out _ _ HRD.out).mono ?_);rintro e W1 ⟨hgr,v,rfl,hV⟩;obtain⟨v1,v2,v3,v4,v5,v6,rfl,hd0,hd1,hd2,hd3,hd4,hd5⟩:=Fr.VMo.parts hV;have HF0:=HF.out;have HF2:=Fr.Fm.call (Kp':=(fun _=>True)) HF0 hgr (fun _ _ _ _ _=>trivial) trivial;replace HF:=hid (HF0.since (HF0.since (HF0.since (HF0.since (HF0.since (HF0.since HF2 hd5) hd4) hd3) hd2) hd1) hd0);clear hV hgr HF0 HF2 hd0 hd1 hd2 hd3 hd4 hd5)
     | (go_at_call 19;(with_reducible refine(HLM.out _ _ _ _ _ _ _ _ _ _ _ _ _ _ HF.out).mono ?_);rintro e W1 ⟨rfl,HF1⟩;replace HF:=hid HF1;clear HF1)
     | (first|((with_reducible refine is_store (T:=30) ?_);(first|(refine wl_store 0 HF.out tyM rfl rfl rfl rfl rfl (z4 rfl) oT ?_)|(refine wl_store 1 HF.out tyM rfl rfl rfl rfl rfl (z4 rfl) oT ?_));intro W1 HF1;simp only [setL,z0,z1]at HF1;replace HF:=hid HF1;clear HF1))
     | (first|((with_reducible refine Fr.is_load (T:=30) ?_);(first|(refine Fr.wl_load 0 HF.out rfl rfl Tryz.underlying30 rfl tyM rfl ?_)))))
    refine bodyPost_ret (Fr.fm_resM 1 HF.out Tryz.results8 rfl rfl Tryz.underlying30 rfl tyM rfl rfl rfl) rfl ?_
    rw [HX.out]
    exact⟨HF.out.gr,rfl⟩
namespace Tr
def parseM(s:ByteArray):Except (Int × Int) Mo:=
 match Tk.lexM (s.size+1) s.data.toList 0 0 with
 | .error (p,c) => .error ((p:Int),c)
 | .ok ts=>match parsedP (s.size:Int) ts with
  | .error q => .error (q,100)
  | .ok m=>if limW m=0 then .ok m else .error (0,limW m)
theorem parseM_eq{s:ByteArray}(h:s.size≤16384):parseR s=parseM s:=by
 unfold parseR parseM Tk.lexR
 rw [if_neg (by omega),Tk.lexM_eq _ _ _ _ (by simp)]
 all_goals (generalize Tk.lexF s.data.toList 0 0=x;cases x <;> rfl)
abbrev wakeS:ByteArray:=⟨#[77,79,68,85,76,69,32,65,59,32,66,69,71,73,78,32,120,32,58,61,32,45,97,46,98,91,49,93,40,50,41,32,43,32,51,32,69,78,68,32,65,46]⟩
abbrev wakeT:ByteArray:=⟨#[77,79,68,85,76,69,32,65,59,32,69,78,68,32,66,46]⟩
def wokeS(x:Except (Int × Int) Mo):Bool:=
 match x with
 | .ok ⟨nm,_,_,_,[.mk _ _ [_,.mk _ _ _ op _ _] _ _ _],_⟩=>nm == [65] && op == [43]
 | _=>false
theorem wokeS_parts{x:Except (Int × Int) Mo}(h:wokeS x=true):∃(m:Mo) (k:Int) (n:List UInt8) (e:Ex) (k2 n2:Int) (t2:List UInt8) (as2:List Ex) (p2:Int) (ls:List (List Ex)) (bs:List (List St)) (q:Int),
  x=.ok m∧m.name=[65]∧m.body=[.mk k n [e,.mk k2 n2 t2 [43] as2 p2] ls bs q]:=by
 unfold wokeS at h
 split at h
 ·rename_i nm _ _ _ k n e k2 n2 t2 op as2 p2 ls bs q _
  simp only [Bool.and_eq_true,beq_iff_eq]at h
  obtain⟨rfl,rfl⟩:=h
  exact⟨_,_,_,_,_,_,_,_,_,_,_,_,rfl,rfl,rfl⟩
 ·cases h
theorem wokeS_true:wokeS (parseM wakeS)=true:=by kernel_rfl
def wokeT(x:Except (Int × Int) Mo):Bool:=match x with | .error (q,c)=>q == 14 && c == 100|_=>false
theorem wokeT_true:wokeT (parseM wakeT)=true:=by kernel_rfl
theorem wakeT_no:parseR wakeT=.error (14,100):=by
 rw [parseM_eq (by decide)]
 have h:=wokeT_true
 unfold wokeT at h
 split at h
 ·rename_i q c hx
  simp only [Bool.and_eq_true,beq_iff_eq]at h
  obtain⟨rfl,rfl⟩:=h
  exact hx
 ·cases h
theorem wakeS_ok:∃(m:Mo) (k:Int) (n:List UInt8) (e:Ex) (k2 n2:Int) (t2:List UInt8) (as2:List Ex) (p2:Int) (ls:List (List Ex)) (bs:List (List St)) (q:Int),
  parseR wakeS=.ok m∧m.name=[65]∧m.body=[.mk k n [e,.mk k2 n2 t2 [43] as2 p2] ls bs q]:=by
 rw [parseM_eq (by decide)]
 exact wokeS_parts wokeS_true
theorem parse_err{s:ByteArray}{q c:Int}(h:parseR s=.error (q,c)):(c != 0)=true:=by
 unfold parseR at h
 split at h
 ·rename_i p e he
  injection h with h
  injection h with h1 h2
  subst h2
  exact(lex_no_zero he).1
 ·split at h
  ·injection h with h
   injection h with h1 h2
   subst h2
   rfl
  ·split at h
   ·cases h
   ·rename_i hl
    injection h with h
    injection h with h1 h2
    subst h2
    simpa using hl
theorem parse_ok{s:ByteArray}{m:Mo}(h:parseR s=.ok m):∃ ts,Tk.lexR s=.ok ts∧parsedP (s.size:Int) ts=.ok m∧limW m=0:=by
 unfold parseR at h
 split at h
 ·cases h
 ·rename_i ts hts
  split at h
  ·cases h
  ·rename_i m' hm
   split at h
   ·rename_i hl
    cases h
    exact⟨ts,hts,hm,hl⟩
   ·cases h
end Tr
theorem parse_yes{s:ByteArray}{m:Tr.Mo}(h:Tr.parseR s=.ok m)(hs:s.size<4294967281)(W:World)(hg:Gs W) :
  Calls Tryz.prog 8 #[.string s] W fun e W'=>W.grownBy W' none∧∃ v,e=.returned (.tuple #[v,.int .i64 0,.int .i64 0])∧Fr.VMo W.heap.size W' v m:=
 (parse_any s W hg hs).mono fun e w' h'=>by rw [h]at h';exact h'
theorem parse_no{s:ByteArray}{q c:Int}(h:Tr.parseR s=.error (q,c))(hs:s.size<4294967281)(W:World)(hg:Gs W) :
  Calls Tryz.prog 8 #[.string s] W fun e W'=>W.grownBy W' none∧e=.returned (.tuple #[.agg Fr.zM.toArray,.int .i64 q,.int .i64 c]):=
 (parse_any s W hg hs).mono fun e w' h'=>by rw [h]at h';exact h'
theorem wake_cells{w W:World}{g:Option Nat}{Kp:World→Prop}{R:List Fr.RI}{Ds:List (Value × Da.D)}{m:Tr.Mo}{v6:Value}{k:Int}{n:List UInt8}{e:Tr.Ex}{k2 n2:Int}{t2:List UInt8}{as2:List Tr.Ex}{p2:Int}{ls:List (List Tr.Ex)}{bs:List (List Tr.St)}{q:Int}(h3:m.body=[.mk k n [e,.mk k2 n2 t2 [43] as2 p2] ls bs q])
  (h:Fr.Fm w g Kp W R Ds) (hd:Ds[5]?=some (v6,Da.D.list 6 (Tr.stDs m.body))):∃ b off c b2 off2 c2,v6=.slice (some ⟨b,off,none⟩) 1 c∧W.cell? ⟨b,off+2,none⟩=some (.slice (some ⟨b2,off2,none⟩) 2 c2)∧W.cell? ⟨b2,off2+6+3,none⟩=some (.string ⟨#[43]⟩):=by
 rw [h3]at hd
 simp only [Tr.stDs,Tr.stD]at hd
 obtain⟨p,c,rfl,-,hp⟩:=h.daSlice hd
 obtain⟨b,off,rfl⟩:=hp (by simp)
 obtain⟨v,c0,-,h4⟩:=h.fieldCell hd 0 2 rfl rfl
 simp only [Tr.exDs,Tr.exD]at h4
 obtain⟨p2,c2,rfl,-,hp2⟩:=h4.daSlice (m:=0) rfl
 obtain⟨b2,off2,rfl⟩:=hp2 (by simp)
 obtain⟨v2,c1,-,h5⟩:=h4.fieldCell (m:=0) rfl 1 3 rfl rfl
 obtain rfl:=Fr.is_str (h5.da 0 _ _ rfl)
 exact⟨b,off,c,b2,off2,c2,rfl,by simpa using c0,by simpa using c1⟩
theorem wakes10_any(w:World)(hg:Gs w) :
  Calls Tryz.prog 7 #[] w fun e w'=>e=.returned (.bool true)∧Below w.heap.size w w':=by
 obtain⟨m,k,n,e0,k2,n2,t2,as2,p2,ls,bs,q,h1,h2,h3⟩:=Tr.wakeS_ok
 have HG:=hid hg
 have HF:=hid (Fr.fm_start w none (fun _=>True) (by simp) (fun _ _ _ _ h=>h) trivial)
 have HA:=hid (fun W hg=>parse_yes h1 (by decide) W hg)
 have HB:=hid (fun W hg=>parse_no Tr.wakeT_no (by decide) W hg)
 clear hg h1
 go_enter Tryz.func7,Tryz.ntmps7
 go_wp2_with (first
  | (go_at_call 8;(with_reducible refine(HA.out _ (HG.out.below (Fr.fm_below HF.out))).mono ?_);rintro e W1 ⟨hgr,v,rfl,hV⟩;obtain⟨v1,v2,v3,v4,v5,v6,rfl,hd0,hd1,hd2,hd3,hd4,hd5⟩:=Fr.VMo.parts hV;have HF0:=HF.out;have HF2:=Fr.Fm.call (Kp':=(fun _=>True)) HF0 hgr (fun _ _ _ _ _=>trivial) trivial;replace HF:=hid (HF0.since (HF0.since (HF0.since (HF0.since (HF0.since (HF0.since HF2 hd5) hd4) hd3) hd2) hd1) hd0);clear hV hgr HF0 HF2 hd0 hd1 hd2 hd3 hd4 hd5)
  | (go_at_call 8;(with_reducible refine(HB.out _ (HG.out.below (Fr.fm_below HF.out))).mono ?_);rintro e W1 ⟨hgr,rfl⟩;replace HF:=hid (Fr.Fm.call (Kp':=(fun _=>True)) HF.out hgr (fun _ _ _ _ _=>trivial) trivial);clear hgr)
  | ((with_reducible refine is_alloc ?_);(first|(refine wl_alloc HF.out tyM ?_));intro b1 W1 HF1;replace HF:=hid HF1;clear HF1)
  | ((first|((with_reducible refine is_store (T:=30) ?_);(first|(refine wl_store 0 HF.out tyM rfl rfl rfl rfl rfl (z4 rfl) oT ?_));intro W1 HF1;simp only [setL,z0,z1]at HF1;replace HF:=hid HF1;clear HF1));(try(have c0:=HF.out.cellAt 1 rfl 0 rfl;have c6:=HF.out.cellAt 1 rfl 6 rfl;obtain⟨bb,off,cc,b2,off2,c2,rfl,d0,d1⟩:=wake_cells h3 HF.out rfl;(try simp only [h2]at c0)))))
 refine bodyPost_ret (v:=.bool true) (by simp [results,Tryz.results7,go_sem];try rfl) rfl ⟨rfl,Fr.fm_below HF.out⟩
end Go.Proofs.YtlhmkfcbldghfaaGreatDoor
