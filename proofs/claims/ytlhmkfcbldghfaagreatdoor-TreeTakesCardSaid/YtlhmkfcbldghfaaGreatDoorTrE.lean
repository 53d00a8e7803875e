/- Where an error lies in a text that cannot be read: within the text. No program in sight. Conditions: the tokens lie within the text. -/
import Derived.Test.YtlhmkfcbldghfaaGreatDoorTrA
namespace Go.Proofs.YtlhmkfcbldghfaaGreatDoor
set_option linter.all false
namespace Tr
variable (en:Int)
def TP(l:List Tok):Prop:=0≤en∧∀ t∈l,0≤t.2.2.2∧t.2.2.2≤en
def E{α:Type}(x:R α):Prop:=match x with | .ok _ l=>TP en l | .no p=>0≤p∧p≤en
theorem tp_tail{l:List Tok}(h:TP en l):TP en l.tail:=⟨h.1,fun t ht=>h.2 t (List.mem_of_mem_tail ht)⟩
theorem e_ok{α:Type}{a:α}{l:List Tok}(h:TP en l):E en (.ok a l):=h
theorem pos_in{l:List Tok}(h:TP en l):0≤posOf en l∧posOf en l≤en:=by
 unfold posOf peek
 split
 ·exact h.2 _ (List.mem_cons_self ..)
 ·exact⟨h.1,Int.le_refl _⟩
theorem e_pos{α:Type}{l:List Tok}(h:TP en l):E en (.no (posOf en l):R α):=pos_in en h
theorem e_zero{α:Type}{l:List Tok}(h:TP en l):E en (.no 0:R α):=⟨Int.le_refl _,h.1⟩
theorem e_bind{α β:Type}{x:R α}{f:α→List Tok→R β}(h:E en x)(hf:∀ a l,TP en l→E en (f a l)):E en (x.bind f):=by
 cases x with
 | ok a l=>exact hf a l h
 | no p=>exact h
theorem e_skip{l:List Tok}(w:List UInt8)(h:TP en l):E en (skip en w l):=by
 unfold skip
 repeat' (first|with_reducible(first|assumption|refine tp_tail en ?_|refine e_ok en ?_|refine e_pos en ?_|refine e_zero en ?_|refine e_bind en ?_ fun _ _ _=>?_)|split)
theorem e_name{l:List Tok}(h:TP en l):E en (nameT en l):=by
 unfold nameT
 repeat' (first|with_reducible(first|assumption|refine tp_tail en ?_|refine e_ok en ?_|refine e_pos en ?_|refine e_zero en ?_|refine e_bind en ?_ fun _ _ _=>?_)|split)
theorem e_many{α:Type}(w:List UInt8)(F:List Tok→R α)(hF:∀ l,TP en l→E en (F l)):∀ n l,TP en l→E en (manyC w F n l):=by
 intro n
 induction n with
 | zero=>intro l h;exact e_zero en h
 | succ n ih =>
  intro l h
  unfold manyC
  repeat' (first|with_reducible(first|assumption|refine tp_tail en ?_|refine e_ok en ?_|refine e_pos en ?_|refine e_zero en ?_|refine hF _ ?_|refine ih _ ?_|refine e_bind en ?_ fun _ _ _=>?_)|split)
theorem e_while{α:Type}(F:List Tok→R α)(hF:∀ l,TP en l→E en (F l)):∀ n l,TP en l→E en (whileN F n l):=by
 intro n
 induction n with
 | zero=>intro l h;exact e_zero en h
 | succ n ih =>
  intro l h
  unfold whileN
  repeat' (first|with_reducible(first|assumption|refine tp_tail en ?_|refine e_ok en ?_|refine e_pos en ?_|refine e_zero en ?_|refine hF _ ?_|refine ih _ ?_|refine e_bind en ?_ fun _ _ _=>?_)|split)
structure RE(r:Rc):Prop where
 ex:∀ l,TP en l→E en (r.ex l)
 fa:∀ l,TP en l→E en (r.fa l)
 ty:∀ l,TP en l→E en (r.ty l)
 op:∀ l,TP en l→E en (r.op l)
 st:∀ l,TP en l→E en (r.st l)
theorem tp_took{l:List Tok}(w:List UInt8)(h:TP en l):TP en (took w l).2:=by
 unfold took
 split
 ·exact tp_tail en h
 ·exact h
theorem e_labels(F:List Tok→R Ex)(hF:∀ l,TP en l→E en (F l))(l:List Tok)(h:TP en l):E en (labelsP F l):=by
 unfold labelsP
 refine e_many en _ _ (fun l h=>?_) _ _ h
 repeat' (first|with_reducible(first|assumption|refine tp_tail en ?_|refine e_ok en ?_|refine e_pos en ?_|refine e_zero en ?_|refine hF _ ?_|refine e_bind en ?_ fun _ _ _=>?_)|split)
theorem e_worded{r:Rc}(hr:RE en r)(w:List UInt8)(n p:Int)(l:List Tok)(h:TP en l):E en (wordedP en r w n p l):=by
 unfold wordedP
 repeat' (first|with_reducible(first|assumption|refine tp_tail en ?_|refine e_ok en ?_|refine e_pos en ?_|refine e_zero en ?_|refine e_skip en _ ?_|refine e_labels en _ hr.ex _ ?_|refine hr.ex _ ?_|refine hr.fa _ ?_|refine e_bind en ?_ fun _ _ _=>?_)|split)
theorem e_designL{r:Rc}(hr:RE en r):∀ n e l,TP en l→E en (designL en r n e l):=by
 intro n
 induction n with
 | zero=>intro e l h;exact e_zero en h
 | succ n ih =>
  intro e l h
  unfold designL
  repeat' (first|with_reducible(first|assumption|refine tp_tail en ?_|refine e_ok en ?_|refine e_pos en ?_|refine e_zero en ?_|refine e_skip en _ ?_|refine e_name en ?_|refine ih _ _ ?_|refine e_many en _ _ hr.ex _ _ ?_|refine e_bind en ?_ fun _ _ _=>?_)|split)
theorem e_design{r:Rc}(hr:RE en r)(l:List Tok)(h:TP en l):E en (designP en r l):=by
 unfold designP
 repeat' (first|with_reducible(first|assumption|refine tp_tail en ?_|refine e_ok en ?_|refine e_pos en ?_|refine e_zero en ?_|refine e_name en ?_|refine e_designL en hr _ _ _ ?_|refine e_bind en ?_ fun _ _ _=>?_)|split)
theorem e_factor{r:Rc}(hr:RE en r)(l:List Tok)(h:TP en l):E en (factorP en r l):=by
 unfold factorP
 simp only
 repeat' (first|with_reducible(first|assumption|refine tp_tail en ?_|refine e_ok en ?_|refine e_pos en ?_|refine e_zero en ?_|refine e_design en hr _ ?_|refine e_worded en hr _ _ _ _ ?_|refine e_bind en ?_ fun _ _ _=>?_)|split)
theorem e_binL(os:List (List UInt8))(F:List Tok→R Ex)(hF:∀ l,TP en l→E en (F l)):∀ n a l,TP en l→E en (binL os F n a l):=by
 intro n
 induction n with
 | zero=>intro a l h;exact e_zero en h
 | succ n ih =>
  intro a l h
  unfold binL
  repeat' (first|with_reducible(first|assumption|refine tp_tail en ?_|refine e_ok en ?_|refine e_pos en ?_|refine e_zero en ?_|refine hF _ ?_|refine ih _ _ ?_|refine e_bind en ?_ fun _ _ _=>?_)|split)
theorem e_term{r:Rc}(hr:RE en r)(l:List Tok)(h:TP en l):E en (termP en r l):=by
 unfold termP
 repeat' (first|with_reducible(first|assumption|refine tp_tail en ?_|refine e_ok en ?_|refine e_pos en ?_|refine e_zero en ?_|refine e_factor en hr _ ?_|refine e_binL en _ _ (e_factor en hr) _ _ _ ?_|refine e_bind en ?_ fun _ _ _=>?_)|split)
theorem e_simple{r:Rc}(hr:RE en r)(l:List Tok)(h:TP en l):E en (simpleP en r l):=by
 unfold simpleP
 repeat' (first|with_reducible(first|assumption|refine tp_tail en ?_|refine e_ok en ?_|refine e_pos en ?_|refine e_zero en ?_|refine e_term en hr _ ?_|refine e_binL en _ _ (e_term en hr) _ _ _ ?_|refine e_bind en ?_ fun _ _ _=>?_)|split)
theorem e_expr{r:Rc}(hr:RE en r)(l:List Tok)(h:TP en l):E en (exprP en r l):=by
 unfold exprP
 repeat' (first|with_reducible(first|assumption|refine tp_tail en ?_|refine e_ok en ?_|refine e_pos en ?_|refine e_zero en ?_|refine e_simple en hr _ ?_|refine e_bind en ?_ fun _ _ _=>?_)|split)
theorem e_qual(l:List Tok)(h:TP en l):E en (qualP en l):=by
 unfold qualP
 repeat' (first|with_reducible(first|assumption|refine tp_tail en ?_|refine e_ok en ?_|refine e_pos en ?_|refine e_zero en ?_|refine e_name en ?_|refine e_bind en ?_ fun _ _ _=>?_)|split)
theorem e_open{r:Rc}(hr:RE en r)(l:List Tok)(h:TP en l):E en (openP en r l):=by
 unfold openP
 repeat' (first|with_reducible(first|assumption|refine tp_tail en ?_|refine e_ok en ?_|refine e_pos en ?_|refine e_zero en ?_|refine e_skip en _ ?_|refine hr.op _ ?_|refine e_qual en _ ?_|refine e_bind en ?_ fun _ _ _=>?_)|split)
theorem e_section{r:Rc}(hr:RE en r)(l:List Tok)(h:TP en l):E en (sectionP en r l):=by
 unfold sectionP
 simp only
 repeat' (first|with_reducible(first|assumption|refine tp_tail en ?_|refine e_ok en ?_|refine e_pos en ?_|refine e_zero en ?_|refine e_many en _ _ (fun _ h=>e_name en h) _ _ ?_|refine e_skip en _ ?_|refine e_open en hr _ ?_|refine tp_took en _ ?_|refine e_bind en ?_ fun _ _ _=>?_)|split)
theorem e_formals{r:Rc}(hr:RE en r)(l:List Tok)(h:TP en l):E en (formalsP en r l):=by
 unfold formalsP
 repeat' (first|with_reducible(first|assumption|refine tp_tail en ?_|refine e_ok en ?_|refine e_pos en ?_|refine e_zero en ?_|refine e_skip en _ ?_|refine e_many en _ _ (e_section en hr) _ _ ?_|refine e_qual en _ ?_|refine e_bind en ?_ fun _ _ _=>?_)|split)
theorem e_def(o:Bool)(l:List Tok)(h:TP en l):E en (defT en o l):=by
 unfold defT
 repeat' (first|with_reducible(first|assumption|refine tp_tail en ?_|refine e_ok en ?_|refine e_pos en ?_|refine e_zero en ?_|refine e_name en ?_|refine e_bind en ?_ fun _ _ _=>?_)|split)
theorem e_fields{r:Rc}(hr:RE en r)(l:List Tok)(h:TP en l):E en (fieldsP en r l):=by
 unfold fieldsP
 repeat' (first|with_reducible(first|assumption|refine tp_tail en ?_|refine e_ok en ?_|refine e_pos en ?_|refine e_zero en ?_|refine e_many en _ _ (e_def en true) _ _ ?_|refine e_skip en _ ?_|refine hr.ty _ ?_|refine e_bind en ?_ fun _ _ _=>?_)|split)
theorem e_typ{r:Rc}(hr:RE en r)(l:List Tok)(h:TP en l):E en (typP en r l):=by
 unfold typP
 repeat' (first|with_reducible(first|assumption|refine tp_tail en ?_|refine e_ok en ?_|refine e_pos en ?_|refine e_zero en ?_|refine e_many en _ _ (e_expr en hr) _ _ ?_|refine e_many en _ _ (e_fields en hr) _ _ ?_|refine e_skip en _ ?_|refine hr.ty _ ?_|refine e_qual en _ ?_|refine e_formals en hr _ ?_|refine e_bind en ?_ fun _ _ _=>?_)|split)
theorem e_arms{r:Rc}(hr:RE en r)(w:List UInt8)(l:List Tok)(h:TP en l):E en (armsP en r w l):=by
 unfold armsP
 refine e_many en _ _ (fun l h=>?_) _ _ h
 repeat' (first|with_reducible(first|assumption|refine tp_tail en ?_|refine e_ok en ?_|refine e_pos en ?_|refine e_zero en ?_|refine e_skip en _ ?_|refine e_expr en hr _ ?_|refine hr.st _ ?_|refine e_bind en ?_ fun _ _ _=>?_)|split)
theorem e_case{r:Rc}(hr:RE en r)(l:List Tok)(h:TP en l):E en (if startT l=0 then(.ok none l:R (Option (List Ex × List St)))else(labelsP (exprP en r) l).bind fun ls l1=>(skip en [58] l1).bind fun _ l2=>(r.st l2).bind fun s l3 => .ok (some (ls,s)) l3):=by
 repeat' (first|with_reducible(first|assumption|refine tp_tail en ?_|refine e_ok en ?_|refine e_pos en ?_|refine e_zero en ?_|refine e_skip en _ ?_|refine e_labels en _ (e_expr en hr) _ ?_|refine hr.st _ ?_|refine e_bind en ?_ fun _ _ _=>?_)|split)
theorem e_stat{r:Rc}(hr:RE en r)(l:List Tok)(h:TP en l):E en (statO en r l):=by
 unfold statO
 simp only
 repeat' (first|with_reducible(first|assumption|refine tp_tail en ?_|refine e_ok en ?_|refine e_pos en ?_|refine e_zero en ?_|refine e_skip en _ ?_|refine e_name en ?_|refine e_design en hr _ ?_|refine e_expr en hr _ ?_|refine e_arms en hr _ _ ?_|refine hr.st _ ?_|refine e_many en _ _ (e_case en hr) _ _ ?_|refine e_bind en ?_ fun _ _ _=>?_)|split)
theorem e_stats{r:Rc}(hr:RE en r)(l:List Tok)(h:TP en l):E en (statsP en r l):=by
 unfold statsP
 repeat' (first|with_reducible(first|assumption|refine tp_tail en ?_|refine e_ok en ?_|refine e_pos en ?_|refine e_zero en ?_|refine e_many en _ _ (e_stat en hr) _ _ ?_|refine e_bind en ?_ fun _ _ _=>?_)|split)
theorem re_pr:∀ n,RE en (pr en n)
 | 0=>{ ex:=fun _ h=>e_zero en h,fa:=fun _ h=>e_zero en h,ty:=fun _ h=>e_zero en h,op:=fun _ h=>e_zero en h,st:=fun _ h=>e_zero en h }
 | n+1=>{ ex:=e_expr en (re_pr n),fa:=e_factor en (re_pr n),ty:=e_typ en (re_pr n),op:=e_open en (re_pr n),st:=e_stats en (re_pr n) }
theorem e_const{r:Rc}(hr:RE en r)(o:Bool)(l:List Tok)(h:TP en l):E en (constP en r o l):=by
 unfold constP
 repeat' (first|with_reducible(first|assumption|refine tp_tail en ?_|refine e_ok en ?_|refine e_pos en ?_|refine e_zero en ?_|refine e_skip en _ ?_|refine e_def en o _ ?_|refine e_expr en hr _ ?_|refine e_bind en ?_ fun _ _ _=>?_)|split)
theorem e_type{r:Rc}(hr:RE en r)(o:Bool)(l:List Tok)(h:TP en l):E en (typeP en r o l):=by
 unfold typeP
 repeat' (first|with_reducible(first|assumption|refine tp_tail en ?_|refine e_ok en ?_|refine e_pos en ?_|refine e_zero en ?_|refine e_skip en _ ?_|refine e_def en o _ ?_|refine e_typ en hr _ ?_|refine e_bind en ?_ fun _ _ _=>?_)|split)
theorem e_var{r:Rc}(hr:RE en r)(o:Bool)(l:List Tok)(h:TP en l):E en (varP en r o l):=by
 unfold varP
 repeat' (first|with_reducible(first|assumption|refine tp_tail en ?_|refine e_ok en ?_|refine e_pos en ?_|refine e_zero en ?_|refine e_skip en _ ?_|refine e_many en _ _ (e_def en o) _ _ ?_|refine e_typ en hr _ ?_|refine e_bind en ?_ fun _ _ _=>?_)|split)
theorem e_decls{r:Rc}(hr:RE en r)(o:Bool)(l:List Tok)(h:TP en l):E en (declsP en r o l):=by
 unfold declsP
 repeat' (first|with_reducible(first|assumption|refine tp_tail en ?_|refine e_ok en ?_|refine e_pos en ?_|refine e_zero en ?_|refine e_while en _ (e_const en hr o) _ _ ?_|refine e_while en _ (e_type en hr o) _ _ ?_|refine e_while en _ (e_var en hr o) _ _ ?_|refine e_bind en ?_ fun _ _ _=>?_)|split)
theorem e_ends(w:List UInt8)(l:List Tok)(h:TP en l):E en (endsP en w l):=by
 unfold endsP
 repeat' (first|with_reducible(first|assumption|refine tp_tail en ?_|refine e_ok en ?_|refine e_pos en ?_|refine e_zero en ?_|refine e_skip en _ ?_|refine e_bind en ?_ fun _ _ _=>?_)|split)
theorem e_proc{r:Rc}(hr:RE en r)(l:List Tok)(h:TP en l):E en (procP en r l):=by
 unfold procP
 repeat' (first|with_reducible(first|assumption|refine tp_tail en ?_|refine e_ok en ?_|refine e_pos en ?_|refine e_zero en ?_|refine e_skip en _ ?_|refine e_def en true _ ?_|refine e_formals en hr _ ?_|refine e_decls en hr false _ ?_|refine e_stats en hr _ ?_|refine e_expr en hr _ ?_|refine e_ends en _ _ ?_|refine e_bind en ?_ fun _ _ _=>?_)|split)
theorem e_procs{r:Rc}(hr:RE en r):∀ n l,TP en l→E en (procsP en r n l):=by
 intro n
 induction n with
 | zero=>intro l h;exact e_zero en h
 | succ n ih =>
  intro l h
  unfold procsP
  repeat' (first|with_reducible(first|assumption|refine tp_tail en ?_|refine e_ok en ?_|refine e_pos en ?_|refine e_zero en ?_|refine e_skip en _ ?_|refine e_proc en hr _ ?_|refine ih _ ?_|refine e_bind en ?_ fun _ _ _=>?_)|split)
theorem e_import(l:List Tok)(h:TP en l):E en (importP en l):=by
 unfold importP
 repeat' (first|with_reducible(first|assumption|refine tp_tail en ?_|refine e_ok en ?_|refine e_pos en ?_|refine e_zero en ?_|refine e_name en ?_|refine e_bind en ?_ fun _ _ _=>?_)|split)
theorem e_module{r:Rc}(hr:RE en r)(l:List Tok)(h:TP en l):E en (moduleP en r l):=by
 unfold moduleP
 repeat' (first|with_reducible(first|assumption|refine tp_tail en ?_|refine e_ok en ?_|refine e_pos en ?_|refine e_zero en ?_|refine e_skip en _ ?_|refine e_name en ?_|refine e_many en _ _ (e_import en) _ _ ?_|refine e_decls en hr true _ ?_|refine e_procs en hr _ _ ?_|refine e_stats en hr _ ?_|refine e_ends en _ _ ?_|refine e_bind en ?_ fun _ _ _=>?_)|split)
theorem parsed_err{l:List Tok}(h:TP en l){q:Int}(hq:parsedP en l=.error q):0≤q∧q≤en:=by
 have hm:=e_module en (re_pr en (l.length+1)) l h
 unfold parsedP at hq
 split at hq
 ·rename_i m l1 he
  rw [he]at hm
  split at hq
  ·cases hq
  ·cases hq;exact pos_in en hm
 ·rename_i p he
  rw [he]at hm
  cases hq
  exact hm
end Tr
namespace Tr
def Gd(w:Wk):Prop:=w.long=false∧w.deepest≤64
theorem gd_node{d:Int}{w:Wk}(h:Gd (nodeW d w)):Gd w∧d≤64:=by
 obtain⟨h1,h2⟩:=h
 unfold nodeW at h1 h2
 simp only at h1 h2
 refine⟨⟨h1,?_⟩,?_⟩ <;> split at h2 <;> omega
theorem gd_list{n:Nat}{w:Wk}(h:Gd (listW n w)):Gd w∧n≤64:=by
 obtain⟨h1,h2⟩:=h
 unfold listW at h1 h2
 simp only [Bool.or_eq_false_iff,decide_eq_false_iff_not]at h1 h2
 exact⟨⟨h1.1,h2⟩,by omega⟩
mutual
theorem exW_mn:∀(e:Ex) (d:Int) (w:Wk),Gd (exW e d w)→Gd w
 | .mk _ _ _ _ as _,d,w,h=>by
  unfold exW at h
  exact(gd_list (exsW_mn as _ _ h)).1
theorem exsW_mn:∀(l:List Ex) (d:Int) (w:Wk),Gd (exsW l d w)→Gd w
 | [],_,_,h=>by unfold exsW at h;exact h
 | e::es,d,w,h=>by
  unfold exsW at h
  split at h
  ·exact(gd_node h).1
  ·exact(gd_node (exW_mn e d _ (exsW_mn es d _ h))).1
end
mutual
theorem tyW_mn:∀(e:Ty) (d:Int) (w:Wk),Gd (tyW e d w)→Gd w
 | .mk _ _ _ ls el ba fs ps rs _,d,w,h=>by
  unfold tyW at h
  exact(gd_list (gd_list (gd_list (gd_list (gd_list (gd_list (exsW_mn ls _ _ (tysW_mn ba _ _ (tysW_mn el _ _ (fdsW_mn fs _ _ (fdsW_mn ps _ _ (tysW_mn rs _ _ h))))))).1).1).1).1).1).1
theorem tysW_mn:∀(l:List Ty) (d:Int) (w:Wk),Gd (tysW l d w)→Gd w
 | [],_,_,h=>by unfold tysW at h;exact h
 | e::es,d,w,h=>by
  unfold tysW at h
  split at h
  ·exact(gd_node h).1
  ·exact(gd_node (tyW_mn e d _ (tysW_mn es d _ h))).1
theorem fdsW_mn:∀(l:List (List UInt8 × Bool × Ty × Int)) (d:Int) (w:Wk),Gd (fdsW l d w)→Gd w
 | [],_,_,h=>by unfold fdsW at h;exact h
 | (_,_,t,_)::fs,d,w,h=>by
  unfold fdsW at h
  have h1:=fdsW_mn fs d _ h
  split at h1
  ·exact(gd_node h1).1
  ·exact(gd_node (tyW_mn t d _ h1)).1
end
theorem labW_mn:∀(l:List (List Ex)) (d:Int) (w:Wk),Gd (labW l d w)→Gd w
 | [],_,_,h=>h
 | l::ls,d,w,h=>(gd_list (exsW_mn l d _ (labW_mn ls d _ h))).1
mutual
theorem stW_mn:∀(e:St) (d:Int) (w:Wk),Gd (stW e d w)→Gd w
 | .mk _ _ es ls bs _,d,w,h=>by
  unfold stW at h
  exact(gd_list (gd_list (gd_list (exsW_mn es _ _ (labW_mn ls _ _ (blsW_mn bs _ _ h)))).1).1).1
theorem stsL_mn:∀(l:List St) (d:Int) (w:Wk),Gd (stsL l d w)→Gd w
 | [],_,_,h=>by unfold stsL at h;exact h
 | e::es,d,w,h=>by
  unfold stsL at h
  split at h
  ·exact(gd_node h).1
  ·exact(gd_node (stW_mn e d _ (stsL_mn es d _ h))).1
theorem blsW_mn:∀(l:List (List St)) (d:Int) (w:Wk),Gd (blsW l d w)→Gd w
 | [],_,_,h=>by unfold blsW at h;exact h
 | b::bs,d,w,h=>by
  unfold blsW at h
  exact(gd_list (stsL_mn b d _ (blsW_mn bs d _ h))).1
end
theorem cnsW_mn:∀(l:List (List UInt8 × Bool × Ex × Int)) (w:Wk),Gd (cnsW l w)→Gd w
 | [],_,h=>h
 | (_,_,e,_)::cs,w,h=>exsW_mn [e] 1 w (cnsW_mn cs _ h)
theorem decls_gd{x:De}{w:Wk}(h:Gd (declsW x w)):Gd w∧x.consts.length≤64∧x.types.length≤64∧x.vars.length≤64:=by
 unfold declsW at h
 have h1:=gd_list (cnsW_mn _ _ (fdsW_mn _ _ _ (fdsW_mn _ _ _ h)))
 have h2:=gd_list h1.1
 have h3:=gd_list h2.1
 exact⟨h3.1,h3.2,h2.2,h1.2⟩
theorem stsW_gd{l:List St}{d:Int}{w:Wk}(h:Gd (stsW l d w)):Gd w:=(gd_list (stsL_mn l d _ h)).1
theorem proc_gd{p:Pr}{w:Wk}(h:Gd (procW p w)):Gd w∧p.params.length≤64∧p.de.consts.length≤64∧p.de.types.length≤64∧p.de.vars.length≤64:=by
 unfold procW at h
 have h1:=decls_gd (stsW_gd (exsW_mn _ _ _ h))
 have h2:=gd_list (fdsW_mn _ _ _ (tysW_mn _ _ _ h1.1))
 exact⟨h2.1,h2.2,h1.2⟩
theorem procs_gd:∀(l:List Pr) (w:Wk),Gd (procsW l w)→Gd w
 | [],_,h=>h
 | _::ps,w,h=>(proc_gd (procs_gd ps _ h)).1
structure Lm(f:Wk→Wk)(c K:Int):Prop where
 mn:∀ w,Gd (f w)→Gd w
 le:∀ w,-9000000000000000000+c≤w.left→w.left≤4000→Gd (f w)→(f w).left≤w.left
 ng:∀ w,-9000000000000000000+c≤w.left→w.left<0→Gd (f w)→w.left - c≤(f w).left
 ps:∀ w,0≤w.left→w.left≤4000→Gd (f w) → -K≤(f w).left
theorem lm_id{c K:Int}(hc:0≤c)(hK:0≤K):Lm (fun w=>w) c K:=⟨fun _ h=>h,fun _ _ _ _=>Int.le_refl _,fun _ _ _ _=>by omega,fun _ h _ _=>by omega⟩
theorem lm_list(n:Nat){K:Int}(hK:0≤K):Lm (listW n) 0 K:=⟨fun _ h=>(gd_list h).1,fun _ _ _ _=>Int.le_refl _,fun w _ _ _=>by show w.left - 0≤w.left;omega,fun w h _ _=>by show -K≤w.left;omega⟩
theorem lm_wk{f:Wk→Wk}{c K c' K':Int}(h:Lm f c K)(hc:c≤c')(hK:K≤K'):Lm f c' K':=
 ⟨h.mn,fun w a b g=>h.le w (by omega) b g,fun w a b g=>by have:=h.ng w (by omega) b g;omega,fun w a b g=>by have:=h.ps w a b g;omega⟩
theorem lm_seq{f g:Wk→Wk}{c1 K1 c2 K2:Int}(hf:Lm f c1 K1)(hg:Lm g c2 K2)(h:K2≤K1+c2)(h1:0≤c1)(h2:0≤c2)(hb:K1+c2≤10000000)(hc:c1≤10000000:=by omega):Lm (fun w=>g (f w)) (c1+c2) (K1+c2):=by
 have fl:∀ w:Wk,-9000000000000000000+(c1+c2)≤w.left→w.left≤4000→Gd (f w) → -9000000000000000000+c2≤(f w).left:=fun w a b gd=>by
  by_cases hw:w.left<0
  ·have:=hf.ng w (by omega) hw gd
   omega
  ·have:=hf.ps w (by omega) b gd
   omega
 refine⟨fun w gd=>hf.mn w (hg.mn _ gd),fun w a b gd=>?_,fun w a b gd=>?_,fun w a b gd=>?_⟩
 ·have g1:=hg.mn _ gd
  have l1:=hf.le w (by omega) b g1
  have l2:=hg.le (f w) (fl w a b g1) (by omega) gd
  omega
 ·have g1:=hg.mn _ gd
  have l1:=hf.le w (by omega) (by omega) g1
  have l2:=hg.ng (f w) (fl w a (by omega) g1) (by omega) gd
  have l3:=hf.ng w (by omega) b g1
  show w.left - (c1+c2)≤(g (f w)).left
  omega
 ·have g1:=hg.mn _ gd
  have l1:=hf.le w (by omega) b g1
  have l3:=hf.ps w a b g1
  show -(K1+c2)≤(g (f w)).left
  by_cases hw:(f w).left<0
  ·have:=hg.ng (f w) (by omega) hw gd
   omega
  ·have:=hg.ps (f w) (by omega) (by omega) gd
   omega
theorem node_left{d:Int}{w:Wk}(h : -9000000000000000000<w.left)(h2:w.left≤4000):(nodeW d w).left=w.left - 1:=by
 show RowKit.wrap64 (w.left - 1)=_
 unfold RowKit.wrap64
 omega
theorem lm_loop{d K cg Kg:Int}{g h:Wk→Wk}(gm:∀ w,Gd (g w)→Gd w)(hg:d≤64→∀ w,Gd (g w)→Lm g cg Kg)(hh:Lm h 1 K)(hK:Kg+1≤K)(h0:0≤Kg)(hc:cg≤10000000)(hk:K≤10000000) :
  Lm (fun w=>if (nodeW d w).left<0 then nodeW d w else h (g (nodeW d w))) 1 K:=by
 have m1:∀ w,Gd (h (g (nodeW d w)))→Gd (nodeW d w):=fun w gd=>gm _ (hh.mn _ gd)
 refine⟨fun w gd=>?_,fun w a b gd=>?_,fun w a b gd=>?_,fun w a b gd=>?_⟩
 ·split at gd
  ·exact(gd_node gd).1
  ·exact(gd_node (m1 w gd)).1
 ·have hn:=node_left (d:=d) (w:=w) (by omega) b
  split at gd
  ·rename_i hs
   rw [if_pos hs]
   omega
  ·rename_i hs
   rw [if_neg hs]
   have gg:=hh.mn _ gd
   have L:=hg (gd_node (m1 w gd)).2 _ gg
   have l1:=L.le (nodeW d w) (by omega) (by omega) gg
   have l2:=L.ps (nodeW d w) (by omega) (by omega) gg
   have l3:=hh.le _ (by omega) (by omega) gd
   omega
 ·have hn:=node_left (d:=d) (w:=w) (by omega) (by omega)
  rw [if_pos (by omega)]
  omega
 ·have hn:=node_left (d:=d) (w:=w) (by omega) b
  split at gd
  ·rename_i hs
   rw [if_pos hs]
   omega
  ·rename_i hs
   rw [if_neg hs]
   have gg:=hh.mn _ gd
   have L:=hg (gd_node (m1 w gd)).2 _ gg
   have l1:=L.le (nodeW d w) (by omega) (by omega) gg
   have l2:=L.ps (nodeW d w) (by omega) (by omega) gg
   by_cases hw:(g (nodeW d w)).left<0
   ·have:=hh.ng _ (by omega) hw gd
    omega
   ·exact hh.ps _ (by omega) (by omega) gd
def KD(d:Int):Int:=200 * (66 - d)
theorem up_in{d:Int}(h:0≤d)(h2:d≤64):up d=d+1:=by
 unfold up RowKit.wrap64
 omega
theorem exs_lm:∀(n:Nat) (l:List Ex),SizeOf.sizeOf l<n→∀ d:Int,0≤d→d≤65→Lm (exsW l d) 1 (KD d):=by
 intro n
 induction n with
 | zero=>intro l h;omega
 | succ n ih =>
  intro l hz d h0 h1
  unfold KD
  cases l with
  | nil=>exact lm_id (by omega) (by omega)
  | cons e es =>
   have hz2:SizeOf.sizeOf es<n∧SizeOf.sizeOf e<n:=by simp only [List.cons.sizeOf_spec]at hz;omega
   have e1:exsW (e::es) d=fun w=>if (nodeW d w).left<0 then nodeW d w else exsW es d (exW e d (nodeW d w)):=by funext w;rfl
   rw [e1]
   refine lm_loop (cg:=1) (Kg:=KD (d+1)+1) (fun w=>exW_mn e d w) (fun h64 w _=>?_) (ih es hz2.1 d h0 h1) (by unfold KD;omega) (by unfold KD;omega) (by omega) (by omega)
   obtain⟨k,m,t,o,as,p⟩:=e
   have e2:exW (.mk k m t o as p) d=fun w=>exsW as (d+1) (listW as.length w):=by funext w;show exsW as (up d) _=_;rw [up_in h0 h64]
   rw [e2]
   have:=lm_seq (lm_list as.length (K:=KD (d+1)) (by unfold KD;omega)) (ih as (by have:=hz2.2;simp only [Ex.mk.sizeOf_spec]at this;omega) (d+1) (by omega) (by omega)) (by omega) (by omega) (by omega) (by unfold KD;omega)
   exact lm_wk this (by omega) (Int.le_refl _)
theorem exs_Lm(l:List Ex){d:Int}(h0:0≤d)(h1:d≤65):Lm (exsW l d) 1 (KD d):=exs_lm _ l (Nat.lt_succ_self _) d h0 h1
theorem fds_of{d:Int}(h0:0≤d)(h1:d≤65):∀(l:List (List UInt8 × Bool × Ty × Int)),l.length≤64→(∀ x∈l,Lm (fun w=>if (nodeW d w).left<0 then nodeW d w else tyW x.2.2.1 d (nodeW d w)) 1 (KD d))→Lm (fdsW l d) l.length (KD d+l.length):=by
 intro l
 induction l with
 | nil=>intro _ _;exact lm_id (by simp) (by unfold KD;simp;omega)
 | cons x l ih =>
  intro hl h
  obtain⟨a,b,t,p⟩:=x
  simp only [List.length_cons]at hl
  have e1:fdsW ((a,b,t,p)::l) d=fun w=>fdsW l d (if (nodeW d w).left<0 then nodeW d w else tyW t d (nodeW d w)):=by funext w;rfl
  rw [e1]
  have:=lm_seq (h _ (List.mem_cons_self ..)) (ih (by omega) fun y hy=>h y (List.mem_cons_of_mem _ hy)) (by omega) (by omega) (by omega) (by unfold KD;omega)
  exact lm_wk this (by simp only [List.length_cons];omega) (by simp only [List.length_cons];omega)
theorem tys_lm:∀(n:Nat),(∀(l:List Ty),SizeOf.sizeOf l<n→∀ d:Int,0≤d→d≤65→Lm (tysW l d) 1 (KD d))∧(∀(t:Ty),SizeOf.sizeOf t<n→∀ d:Int,0≤d→d≤65→Lm (fun w=>if (nodeW d w).left<0 then nodeW d w else tyW t d (nodeW d w)) 1 (KD d)):=by
 intro n
 induction n with
 | zero=>exact⟨fun l h=>by omega,fun l h=>by omega⟩
 | succ n ih =>
  have one:∀(t:Ty),SizeOf.sizeOf t<n+1→∀ d:Int,0≤d→d≤64→∀ w,Gd (tyW t d w)→Lm (tyW t d) 132 (KD (d+1)+132):=by
   intro t hz d h0 h64 w hgd
   obtain⟨k,m,nm,ls,el,ba,fs,ps,rs,p⟩:=t
   simp only [Ty.mk.sizeOf_spec]at hz
   have hfl:fs.length≤64∧ps.length≤64:=by
    unfold tyW at hgd
    have g6:=gd_list (exsW_mn ls _ _ (tysW_mn ba _ _ (tysW_mn el _ _ (fdsW_mn fs _ _ (fdsW_mn ps _ _ (tysW_mn rs _ _ hgd))))))
    have g5:=gd_list g6.1
    have g4:=gd_list g5.1
    exact⟨g4.2,g5.2⟩
   have e1:tyW (.mk k m nm ls el ba fs ps rs p) d=fun w=>tysW rs (d+1) (fdsW ps (d+1) (fdsW fs (d+1) (tysW el (d+1) (tysW ba (d+1) (exsW ls (d+1) (listW rs.length (listW ps.length (listW fs.length (listW ba.length (listW el.length (listW ls.length w))))))))))):=by
    funext w
    show tysW rs (up d) (fdsW ps (up d) (fdsW fs (up d) (tysW el (up d) (tysW ba (up d) (exsW ls (up d) _)))))=_
    rw [up_in h0 h64]
   have hd1:0≤d+1:=by omega
   have hd2:d+1≤65:=by omega
   have fd:∀(l:List (List UInt8 × Bool × Ty × Int)),SizeOf.sizeOf l<n→l.length≤64→Lm (fdsW l (d+1)) l.length (KD (d+1)+l.length):=fun l hl hn =>
    fds_of hd1 hd2 l hn fun x hx=>ih.2 x.2.2.1 (by
     have h1:=List.sizeOf_lt_of_mem hx
     obtain⟨a,b,c,q⟩:=x
     simp only [Prod.mk.sizeOf_spec]at h1
     show SizeOf.sizeOf c<n
     omega) (d+1) hd1 hd2
   rw [e1]
   have hKd:KD (d+1)=200 * (66 - (d+1)):=rfl
   have L0:=lm_list ls.length (K:=KD (d+1)) (by omega)
   have L1:=lm_seq L0 (lm_list el.length (K:=KD (d+1)) (by omega)) (by omega) (by omega) (by omega) (by omega)
   have L2:=lm_seq L1 (lm_list ba.length (K:=KD (d+1)) (by omega)) (by omega) (by omega) (by omega) (by omega)
   have L3:=lm_seq L2 (lm_list fs.length (K:=KD (d+1)) (by omega)) (by omega) (by omega) (by omega) (by omega)
   have L4:=lm_seq L3 (lm_list ps.length (K:=KD (d+1)) (by omega)) (by omega) (by omega) (by omega) (by omega)
   have L5:=lm_seq L4 (lm_list rs.length (K:=KD (d+1)) (by omega)) (by omega) (by omega) (by omega) (by omega)
   have L6:=lm_seq L5 (exs_Lm ls hd1 hd2) (by omega) (by omega) (by omega) (by omega)
   have L7:=lm_seq L6 (ih.1 ba (by omega) (d+1) hd1 hd2) (by omega) (by omega) (by omega) (by omega)
   have L8:=lm_seq L7 (ih.1 el (by omega) (d+1) hd1 hd2) (by omega) (by omega) (by omega) (by omega)
   have L9:=lm_seq L8 (fd fs (by omega) hfl.1) (by omega) (by omega) (by omega) (by omega)
   have L10:=lm_seq L9 (fd ps (by omega) hfl.2) (by omega) (by omega) (by omega) (by omega)
   have L11:=lm_seq L10 (ih.1 rs (by omega) (d+1) hd1 hd2) (by omega) (by omega) (by omega) (by omega)
   exact lm_wk L11 (by omega) (by omega)
  refine⟨fun l hz d h0 h1=>?_,fun t hz d h0 h1=>?_⟩
  ·cases l with
   | nil=>exact lm_id (by omega) (by unfold KD;omega)
   | cons e es =>
    have hz2:SizeOf.sizeOf es<n∧SizeOf.sizeOf e<n:=by simp only [List.cons.sizeOf_spec]at hz;omega
    have e1:tysW (e::es) d=fun w=>if (nodeW d w).left<0 then nodeW d w else tysW es d (tyW e d (nodeW d w)):=by funext w;rfl
    rw [e1]
    exact lm_loop (fun w=>tyW_mn e d w) (fun h64 w hw=>one e (by omega) d h0 h64 w hw) (ih.1 es hz2.1 d h0 h1) (by unfold KD;omega) (by unfold KD;omega) (by omega) (by unfold KD;omega)
  ·exact lm_loop (h:=fun w=>w) (fun w=>tyW_mn t d w) (fun h64 w hw=>one t hz d h0 h64 w hw) (lm_id (by omega) (by unfold KD;omega)) (by unfold KD;omega) (by unfold KD;omega) (by omega) (by unfold KD;omega)
theorem tys_Lm(l:List Ty){d:Int}(h0:0≤d)(h1:d≤65):Lm (tysW l d) 1 (KD d):=(tys_lm _).1 l (Nat.lt_succ_self _) d h0 h1
theorem fds_Lm(l:List (List UInt8 × Bool × Ty × Int))(hl:l.length≤64):Lm (fdsW l 1) l.length (KD 1+l.length):=fds_of (by omega) (by omega) l hl fun x _=>(tys_lm _).2 x.2.2.1 (Nat.lt_succ_self _) 1 (by omega) (by omega)
theorem labs_Lm{d:Int}(h0:0≤d)(h1:d≤65):∀(l:List (List Ex)),l.length≤64→Lm (labW l d) l.length (KD d+l.length+1):=by
 intro l
 induction l with
 | nil=>intro _;exact lm_id (by simp) (by unfold KD;simp;omega)
 | cons x l ih =>
  intro hl
  simp only [List.length_cons]at hl
  have e1:labW (x::l) d=fun w=>labW l d (exsW x d (listW x.length w)):=by funext w;rfl
  rw [e1]
  have L1:=lm_seq (lm_list x.length (K:=KD d) (by unfold KD;omega)) (exs_Lm x h0 h1) (by omega) (by omega) (by omega) (by unfold KD;omega)
  have L2:=lm_seq L1 (ih (by omega)) (by omega) (by omega) (by omega) (by unfold KD;omega)
  exact lm_wk L2 (by simp only [List.length_cons];omega) (by simp only [List.length_cons];omega)
theorem sts_lm:∀(n:Nat) (l:List St),SizeOf.sizeOf l<n→∀ d:Int,0≤d→d≤65→Lm (stsL l d) 1 (KD d):=by
 intro n
 induction n with
 | zero=>intro l h;omega
 | succ n ih =>
  intro l hz d h0 h1
  cases l with
  | nil=>exact lm_id (by omega) (by unfold KD;omega)
  | cons e es =>
   have hz2:SizeOf.sizeOf es<n∧SizeOf.sizeOf e<n:=by simp only [List.cons.sizeOf_spec]at hz;omega
   have e1:stsL (e::es) d=fun w=>if (nodeW d w).left<0 then nodeW d w else stsL es d (stW e d (nodeW d w)):=by funext w;rfl
   rw [e1]
   refine lm_loop (cg:=129) (Kg:=KD (d+1)+132) (fun w=>stW_mn e d w) (fun h64 w hgd=>?_) (ih es hz2.1 d h0 h1) (by unfold KD;omega) (by unfold KD;omega) (by omega) (by unfold KD;omega)
   obtain⟨k,nm,xs,ls,bs,p⟩:=e
   have hz3:=hz2.2
   simp only [St.mk.sizeOf_spec]at hz3
   have hl:ls.length≤64∧bs.length≤64:=by
    unfold stW at hgd
    have g3:=gd_list (exsW_mn xs _ _ (labW_mn ls _ _ (blsW_mn bs _ _ hgd)))
    have g2:=gd_list g3.1
    have g1:=gd_list g2.1
    exact⟨g1.2,g2.2⟩
   have hd1:0≤d+1:=by omega
   have hd2:d+1≤65:=by omega
   have e2:stW (.mk k nm xs ls bs p) d=fun w=>blsW bs (d+1) (labW ls (d+1) (exsW xs (d+1) (listW xs.length (listW bs.length (listW ls.length w))))):=by
    funext w
    show blsW bs (up d) (labW ls (up d) (exsW xs (up d) _))=_
    rw [up_in h0 h64]
   have hbl:∀(b:List (List St)),SizeOf.sizeOf b<n→b.length≤64→Lm (blsW b (d+1)) b.length (KD (d+1)+b.length+1):=by
    intro b
    induction b with
    | nil=>intro _ _;exact lm_id (by simp) (by unfold KD;simp;omega)
    | cons x l ihb =>
     intro hs hn
     simp only [List.length_cons,List.cons.sizeOf_spec]at hn hs
     have e3:blsW (x::l) (d+1)=fun w=>blsW l (d+1) (stsL x (d+1) (listW x.length w)):=by funext w;rfl
     rw [e3]
     have L1:=lm_seq (lm_list x.length (K:=KD (d+1)) (by unfold KD;omega)) (ih x (by omega) (d+1) hd1 hd2) (by omega) (by omega) (by omega) (by unfold KD;omega)
     have L2:=lm_seq L1 (ihb (by omega) (by omega)) (by omega) (by omega) (by omega) (by unfold KD;omega)
     exact lm_wk L2 (by simp only [List.length_cons];omega) (by simp only [List.length_cons];omega)
   rw [e2]
   have hKd:KD (d+1)=200 * (66 - (d+1)):=rfl
   have L0:=lm_list ls.length (K:=KD (d+1)) (by omega)
   have L1:=lm_seq L0 (lm_list bs.length (K:=KD (d+1)) (by omega)) (by omega) (by omega) (by omega) (by omega)
   have L2:=lm_seq L1 (lm_list xs.length (K:=KD (d+1)) (by omega)) (by omega) (by omega) (by omega) (by omega)
   have L3:=lm_seq L2 (exs_Lm xs hd1 hd2) (by omega) (by omega) (by omega) (by omega)
   have L4:=lm_seq L3 (labs_Lm hd1 hd2 ls hl.1) (by omega) (by omega) (by omega) (by omega)
   have L5:=lm_seq L4 (hbl bs (by omega) hl.2) (by omega) (by omega) (by omega) (by omega)
   exact lm_wk L5 (by omega) (by omega)
theorem sts_Lm(l:List St):Lm (stsW l 1) 1 (KD 1+1):=by
 have h:=lm_seq (lm_list l.length (K:=KD 1) (by unfold KD;omega)) (sts_lm _ l (Nat.lt_succ_self _) 1 (by omega) (by omega)) (by omega) (by omega) (by omega) (by unfold KD;omega)
 exact lm_wk h (by omega) (by omega)
theorem cns_Lm:∀(l:List (List UInt8 × Bool × Ex × Int)),l.length≤64→Lm (cnsW l) l.length (KD 1+l.length):=by
 intro l
 induction l with
 | nil=>intro _;exact lm_id (by simp) (by unfold KD;simp)
 | cons x l ih =>
  intro hl
  obtain⟨a,b,e,p⟩:=x
  simp only [List.length_cons]at hl
  have e1:cnsW ((a,b,e,p)::l)=fun w=>cnsW l (exsW [e] 1 w):=by funext w;rfl
  rw [e1]
  have L1:=lm_seq (exs_Lm [e] (d:=1) (by omega) (by omega)) (ih (by omega)) (by omega) (by omega) (by omega) (by unfold KD;omega)
  exact lm_wk L1 (by simp only [List.length_cons];omega) (by simp only [List.length_cons];omega)
theorem decls_Lm(x:De)(h1:x.consts.length≤64)(h2:x.types.length≤64)(h3:x.vars.length≤64):Lm (declsW x) 192 (KD 1+192):=by
 have e1:declsW x=fun w=>fdsW x.vars 1 (fdsW x.types 1 (cnsW x.consts (listW x.vars.length (listW x.types.length (listW x.consts.length w))))):=by funext w;rfl
 rw [e1]
 have hK:KD 1=13000:=rfl
 have L0:=lm_list x.consts.length (K:=KD 1) (by omega)
 have L1:=lm_seq L0 (lm_list x.types.length (K:=KD 1) (by omega)) (by omega) (by omega) (by omega) (by omega)
 have L2:=lm_seq L1 (lm_list x.vars.length (K:=KD 1) (by omega)) (by omega) (by omega) (by omega) (by omega)
 have L3:=lm_seq L2 (cns_Lm x.consts h1) (by omega) (by omega) (by omega) (by omega)
 have L4:=lm_seq L3 (fds_Lm x.types h2) (by omega) (by omega) (by omega) (by omega)
 have L5:=lm_seq L4 (fds_Lm x.vars h3) (by omega) (by omega) (by omega) (by omega)
 exact lm_wk L5 (by omega) (by omega)
theorem proc_Lm(p:Pr)(w:Wk)(h:Gd (procW p w)):Lm (procW p) 260 (KD 1+300):=by
 obtain⟨_,h0,h1,h2,h3⟩:=proc_gd h
 have e1:procW p=fun w=>exsW p.ret 1 (stsW p.body 1 (declsW p.de (tysW p.result 1 (fdsW p.params 1 (listW p.params.length w))))):=by funext w;rfl
 rw [e1]
 have hK:KD 1=13000:=rfl
 have L0:=lm_list p.params.length (K:=KD 1) (by omega)
 have L1:=lm_seq L0 (fds_Lm p.params h0) (by omega) (by omega) (by omega) (by omega)
 have L2:=lm_seq L1 (tys_Lm p.result (d:=1) (by omega) (by omega)) (by omega) (by omega) (by omega) (by omega)
 have L3:=lm_seq L2 (decls_Lm p.de h1 h2 h3) (by omega) (by omega) (by omega) (by omega)
 have L4:=lm_seq L3 (sts_Lm p.body) (by omega) (by omega) (by omega) (by omega)
 have L5:=lm_seq L4 (exs_Lm p.ret (d:=1) (by omega) (by omega)) (by omega) (by omega) (by omega) (by omega)
 exact lm_wk L5 (by omega) (by omega)
theorem procs_Lm:∀(l:List Pr) (w:Wk),l.length≤64→Gd (procsW l w)→Lm (procsW l) (260 * l.length) (KD 1+300+260 * l.length):=by
 intro l
 induction l with
 | nil=>intro _ _ _;exact lm_id (by simp) (by unfold KD;simp)
 | cons p l ih =>
  intro w hl hgd
  simp only [List.length_cons]at hl
  have hg2:Gd (procsW l (procW p w)):=hgd
  have e1:procsW (p::l)=fun w=>procsW l (procW p w):=by funext w;rfl
  rw [e1]
  have hK:KD 1=13000:=rfl
  have L1:=lm_seq (proc_Lm p w (procs_gd l _ hg2)) (ih _ (by omega) hg2) (by omega) (by omega) (by omega) (by omega)
  exact lm_wk L1 (by simp only [List.length_cons];omega) (by simp only [List.length_cons];omega)
theorem left_in{m:Mo}(h:limW m=0):0≤(walkW m).left∧(walkW m).left≤4000:=by
 have hg:¬(walkW m).left<0∧Gd (walkW m):=by
  unfold limW at h
  split at h
  ·cases h
  ·rename_i h1
   split at h
   ·cases h
   ·rename_i h2
    refine⟨fun h3=>h1 (.inr h3),?_,by omega⟩
    cases hl:(walkW m).long with
    | false=>rfl
    | true=>exact absurd (.inl hl) h1
 refine⟨by have:=hg.1;omega,?_⟩
 have hgd:=hg.2
 have e1:walkW m=stsW m.body 1 (procsW m.procs (declsW m.de (listW m.procs.length (listW m.imports.length ⟨4000,0,false⟩)))):=rfl
 rw [e1]at hgd
 have g1:=stsW_gd hgd
 have g2:=decls_gd (procs_gd _ _ g1)
 have g3:=gd_list g2.1
 have hK:KD 1=13000:=rfl
 have L0:=lm_list m.imports.length (K:=KD 1) (by omega)
 have L1:=lm_seq L0 (lm_list m.procs.length (K:=KD 1) (by omega)) (by omega) (by omega) (by omega) (by omega)
 have L2:=lm_wk (c':=192) (K':=KD 1+400) (lm_seq L1 (decls_Lm m.de g2.2.1 g2.2.2.1 g2.2.2.2) (by omega) (by omega) (by omega) (by omega)) (by omega) (by omega)
 have L3:=lm_seq L2 (procs_Lm m.procs _ g3.2 g1) (by have:=g3.2;omega) (by omega) (by omega) (by have:=g3.2;omega)
 have L4:=lm_seq L3 (sts_Lm m.body) (by have:=g3.2;omega) (by have:=g3.2;omega) (by omega) (by have:=g3.2;omega)
 exact L4.le ⟨4000,0,false⟩ (by have:=g3.2;simp only;omega) (by simp only;omega) hgd
end Tr
end Go.Proofs.YtlhmkfcbldghfaaGreatDoor
