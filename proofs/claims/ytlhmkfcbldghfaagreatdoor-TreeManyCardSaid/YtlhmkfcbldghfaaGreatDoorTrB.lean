/- Tokens that are alike but for places are read as trees that are alike but for places;plain. No program in sight. Conditions: none. -/
import Derived.Test.YtlhmkfcbldghfaaGreatDoorTrA
import Derived.Test.YtlhmkfcbldghfaaGreatDoorTokI
namespace Go.Proofs.YtlhmkfcbldghfaaGreatDoor
set_option linter.all false
namespace Tr
inductive Al{α:Type}(P:α→α→Prop):List α→List α→Prop where
 | nil:Al P [] []
 | cons {a b:α} {l k:List α} (h:P a b) (t:Al P l k):Al P (a::l) (b::k)
inductive SE:Ex→Ex→Prop where
 | mk (kd n:Int) (t o:List UInt8) (as bs:List Ex) (p q:Int) (h:Al SE as bs):SE (.mk kd n t o as p) (.mk kd n t o bs q)
inductive Fd(P:Ty→Ty→Prop):(List UInt8 × Bool × Ty × Int)→(List UInt8 × Bool × Ty × Int)→Prop where
 | mk (n:List UInt8) (b:Bool) (t u:Ty) (p q:Int) (h:P t u):Fd P (n,b,t,p) (n,b,u,q)
inductive ST:Ty→Ty→Prop where
 | mk (kd:Int) (m n:List UInt8) (ls ls':List Ex) (el el' bs bs':List Ty) (fs fs' ps ps':List (List UInt8 × Bool × Ty × Int)) (rs rs':List Ty) (p q:Int)
  (h1:Al SE ls ls') (h2:Al ST el el') (h3:Al ST bs bs') (h4:Al (Fd ST) fs fs') (h5:Al (Fd ST) ps ps') (h6:Al ST rs rs'):ST (.mk kd m n ls el bs fs ps rs p) (.mk kd m n ls' el' bs' fs' ps' rs' q)
inductive SS:St→St→Prop where
 | mk (kd:Int) (n:List UInt8) (es es':List Ex) (ls ls':List (List Ex)) (bs bs':List (List St)) (p q:Int)
  (h1:Al SE es es') (h2:Al (Al SE) ls ls') (h3:Al (Al SS) bs bs'):SS (.mk kd n es ls bs p) (.mk kd n es' ls' bs' q)
def TK(a b:Tok):Prop:=a.1=b.1∧a.2.1=b.2.1∧a.2.2.1=b.2.2.1
abbrev AT'(l k:List Tok):Prop:=Al TK l k
def RR{α:Type}(P:α→α→Prop)(x y:R α):Prop:=
 match x,y with
 | .ok a l,.ok b k=>P a b∧AT' l k
 | .no _,.no _=>True
 | _,_=>False
theorem rr_ok{α:Type}{P:α→α→Prop}{a b:α}{l k:List Tok}(h:P a b)(ht:AT' l k):RR P (.ok a l) (.ok b k):=⟨h,ht⟩
theorem rr_no{α:Type}{P:α→α→Prop}(p q:Int):RR P (.no p:R α) (.no q):=trivial
theorem rr_bind{α β:Type}{P:α→α→Prop}{Q:β→β→Prop}{x y:R α}{f g:α→List Tok→R β}(h:RR P x y)(hf:∀ a b l k,P a b→AT' l k→RR Q (f a l) (g b k)):RR Q (x.bind f) (y.bind g):=by
 cases x with
 | ok a l =>
  cases y with
  | ok b k=>exact hf a b l k h.1 h.2
  | no q=>exact h.elim
 | no p =>
  cases y with
  | ok b k=>exact h.elim
  | no q=>trivial
theorem al_tail{l k:List Tok}(h:AT' l k):AT' l.tail k.tail:=by
 cases h with
 | nil=>exact .nil
 | cons h t=>exact t
theorem al_len{α:Type}{P:α→α→Prop}{l k:List α}(h:Al P l k):l.length=k.length:=by
 induction h with
 | nil=>rfl
 | cons h t ih=>simp [ih]
theorem al_isS{l k:List Tok}(h:AT' l k)(w:List UInt8):isS w l=isS w k:=by
 cases h with
 | nil=>rfl
 | cons h t=>simp only [isS,h.1,h.2.1]
theorem al_isN{l k:List Tok}(h:AT' l k):isN l=isN k:=by
 cases h with
 | nil=>rfl
 | cons h t=>simp only [isN,h.1]
theorem al_op{l k:List Tok}(h:AT' l k)(ws:List (List UInt8)):opT ws l=opT ws k:=by
 cases h with
 | nil=>rfl
 | cons h t=>simp only [opT,h.1,h.2.1]
theorem al_start{l k:List Tok}(h:AT' l k):startT l=startT k:=by
 cases h with
 | nil=>rfl
 | cons h t=>simp only [startT,h.1,h.2.1]
variable {en en':Int}
theorem al_peek{l k:List Tok}(h:AT' l k):TK (peek en l) (peek en' k):=by
 cases h with
 | nil=>exact⟨rfl,rfl,rfl⟩
 | cons h t=>exact h
variable (en en')
theorem rr_skip{l k:List Tok}(h:AT' l k)(w:List UInt8):RR (fun _ _=>True) (skip en w l) (skip en' w k):=by
 unfold skip
 rw [al_isS h w]
 split
 ·exact rr_ok trivial (al_tail h)
 ·exact rr_no _ _
theorem rr_name{l k:List Tok}(h:AT' l k):RR TK (nameT en l) (nameT en' k):=by
 unfold nameT
 rw [al_isN h]
 split
 ·exact rr_ok (al_peek h) (al_tail h)
 ·exact rr_no _ _
theorem rr_many{α:Type}{P:α→α→Prop}(w:List UInt8)(F G:List Tok→R α)(hF:∀ l k,AT' l k→RR P (F l) (G k)):∀ n l k,AT' l k→RR (Al P) (manyC w F n l) (manyC w G n k):=by
 intro n
 induction n with
 | zero=>intro l k _;exact rr_no _ _
 | succ n ih =>
  intro l k h
  refine rr_bind (hF l k h) fun a b l1 k1 hp h1=>?_
  rw [al_isS h1 w]
  split
  ·exact rr_bind (ih _ _ (al_tail h1)) fun as bs l2 k2 hs h2=>rr_ok (.cons hp hs) h2
  ·exact rr_ok (.cons hp .nil) h1
theorem rr_while{α:Type}{P:α→α→Prop}(F G:List Tok→R α)(hF:∀ l k,AT' l k→RR P (F l) (G k)):∀ n l k,AT' l k→RR (Al P) (whileN F n l) (whileN G n k):=by
 intro n
 induction n with
 | zero=>intro l k _;exact rr_no _ _
 | succ n ih =>
  intro l k h
  unfold whileN
  rw [al_isN h]
  split
  ·exact rr_bind (hF l k h) fun a b l1 k1 hp h1=>rr_bind (ih _ _ h1) fun as bs l2 k2 hs h2=>rr_ok (.cons hp hs) h2
  ·exact rr_ok .nil h
theorem se_bin(o:List UInt8){a b c d:Ex}(h1:SE a b)(h2:SE c d):SE (bin o a c) (bin o b d):=by
 have h3:=h1
 cases h1 with
 | mk kd n t o' as bs p q h=>exact .mk 14 0 [] o _ _ _ _ (.cons h3 (.cons h2 .nil))
structure RC(r s:Rc):Prop where
 ex:∀ l k,AT' l k→RR SE (r.ex l) (s.ex k)
 fa:∀ l k,AT' l k→RR SE (r.fa l) (s.fa k)
 ty:∀ l k,AT' l k→RR ST (r.ty l) (s.ty k)
 op:∀ l k,AT' l k→RR ST (r.op l) (s.op k)
 st:∀ l k,AT' l k→RR (Al SS) (r.st l) (s.st k)
theorem rr_labels(E F:List Tok→R Ex)(hE:∀ l k,AT' l k→RR SE (E l) (F k))(l k:List Tok)(h:AT' l k):RR (Al SE) (labelsP E l) (labelsP F k):=by
 unfold labelsP
 rw [al_len h]
 refine rr_many _ _ _ (fun l k h=>rr_bind (hE l k h) fun a b l1 k1 hp h1=>?_) _ _ _ h
 rw [al_isS h1]
 split
 ·exact rr_bind (hE _ _ (al_tail h1)) fun c d l2 k2 hq h2=>rr_ok (.mk 7 0 [] [] _ _ _ _ (.cons hp (.cons hq .nil))) h2
 ·exact rr_ok hp h1
theorem rr_worded{r s:Rc}(h:RC r s)(w:List UInt8)(n p q:Int)(l k:List Tok)(hl:AT' l k):RR SE (wordedP en r w n p l) (wordedP en' s w n q k):=by
 unfold wordedP
 rw [al_isS hl]
 repeat' split
 all_goals first
  | exact rr_ok (.mk _ _ _ _ _ _ _ _ .nil) hl
  | exact rr_ok (.mk _ _ _ _ _ _ _ _ .nil) (al_tail hl)
  | exact rr_bind (rr_labels _ _ h.ex _ _ hl) fun _ _ _ _ hp h1=>rr_bind (rr_skip en en' h1 _) fun _ _ _ _ _ h2=>rr_ok (.mk _ _ _ _ _ _ _ _ hp) h2
  | exact rr_bind (h.ex _ _ hl) fun _ _ _ _ hp h1=>rr_bind (rr_skip en en' h1 _) fun _ _ _ _ _ h2=>rr_ok hp h2
  | exact rr_bind (h.fa _ _ hl) fun _ _ _ _ hp h1=>rr_ok (.mk _ _ _ _ _ _ _ _ (.cons hp .nil)) h1
theorem al_map{α β:Type}{P:α→α→Prop}{Q:β→β→Prop}{f g:α→β}{l k:List α}(h:Al P l k)(hf:∀ a b,P a b→Q (f a) (g b)):Al Q (l.map f) (k.map g):=by
 induction h with
 | nil=>exact .nil
 | cons h t ih=>exact .cons (hf _ _ h) ih
theorem al_append{α:Type}{P:α→α→Prop}{l k l' k':List α}(h:Al P l k)(h':Al P l' k'):Al P (l++l') (k++k'):=by
 induction h with
 | nil=>exact h'
 | cons h t ih=>exact .cons h ih
theorem al_flatten{α:Type}{P:α→α→Prop}{l k:List (List α)}(h:Al (Al P) l k):Al P l.flatten k.flatten:=by
 induction h with
 | nil=>exact .nil
 | cons h t ih=>exact al_append h ih
theorem se_pos(kd n:Int)(t o:List UInt8){as bs:List Ex}(p q:Int)(h:Al SE as bs):SE (.mk kd n t o as p) (.mk kd n t o bs q):=.mk kd n t o as bs p q h
theorem se_fold{xs ys:List Ex}(h:Al SE xs ys):∀ e f,SE e f→SE (xs.foldl (fun e x => .mk 10 0 [] [] [e,x] (exPos e)) e) (ys.foldl (fun e x => .mk 10 0 [] [] [e,x] (exPos e)) f):=by
 induction h with
 | nil=>intro e f h;exact h
 | cons hx t ih=>intro e f h;exact ih _ _ (se_pos _ _ _ _ _ _ (.cons h (.cons hx .nil)))
theorem rr_designL{r s:Rc}(h:RC r s):∀ n e f l k,SE e f→AT' l k→RR SE (designL en r n e l) (designL en' s n f k):=by
 intro n
 induction n with
 | zero=>intro e f l k _ _;exact rr_no _ _
 | succ n ih =>
  intro e f l k he hl
  unfold designL
  have htl:=al_tail hl
  have hlen:=al_len hl
  rw [al_isS hl,al_isS hl,al_isS hl,al_isS hl,al_isS htl,hlen]
  split
  ·exact rr_bind (rr_name en en' htl) fun a b l1 k1 hp h1=>by
    rw [hp.2.1]
    exact ih _ _ _ _ (se_pos _ _ _ _ _ _ (.cons he .nil)) h1
  ·split
   ·exact rr_bind (rr_many _ _ _ h.ex _ _ _ htl) fun _ _ _ _ hp h1=>rr_bind (rr_skip en en' h1 _) fun _ _ _ _ _ h2=>ih _ _ _ _ (se_fold hp _ _ he) h2
   ·split
    ·exact ih _ _ _ _ (se_pos _ _ _ _ _ _ (.cons he .nil)) htl
    ·split
     ·refine rr_bind (P:=Al SE) ?_ fun _ _ _ _ hp h1=>rr_bind (rr_skip en en' h1 _) fun _ _ _ _ _ h2=>ih _ _ _ _ (se_pos _ _ _ _ _ _ (.cons he hp)) h2
      split
      ·exact rr_ok .nil htl
      ·exact rr_many _ _ _ h.ex _ _ _ htl
     ·exact rr_ok he hl
theorem rr_design{r s:Rc}(h:RC r s)(l k:List Tok)(hl:AT' l k):RR SE (designP en r l) (designP en' s k):=by
 unfold designP
 rw [al_len hl]
 refine rr_bind (rr_name en en' hl) fun a b l1 k1 hp h1=>?_
 rw [hp.2.1]
 exact rr_designL en en' h _ _ _ _ _ (se_pos _ _ _ _ _ _ .nil) h1
theorem rr_factor{r s:Rc}(h:RC r s)(l k:List Tok)(hl:AT' l k):RR SE (factorP en r l) (factorP en' s k):=by
 unfold factorP
 rw [al_start hl]
 split
 ·exact rr_design en en' h l k hl
 ·split
  ·have hp:=al_peek (en:=en) (en':=en') hl
   simp only
   rw [hp.1,hp.2.1,hp.2.2]
   repeat' split
   all_goals first
    | exact rr_ok (se_pos _ _ _ _ _ _ .nil) (al_tail hl)
    | exact rr_worded en en' h _ _ _ _ _ _ (al_tail hl)
  ·exact rr_no _ _
theorem rr_binL(os:List (List UInt8))(F G:List Tok→R Ex)(hF:∀ l k,AT' l k→RR SE (F l) (G k)):∀ n a b l k,SE a b→AT' l k→RR SE (binL os F n a l) (binL os G n b k):=by
 intro n
 induction n with
 | zero=>intro a b l k _ _;exact rr_no _ _
 | succ n ih =>
  intro a b l k ha hl
  unfold binL
  rw [al_op hl]
  split
  ·exact rr_bind (hF _ _ (al_tail hl)) fun _ _ _ _ hp h1=>ih _ _ _ _ (se_bin _ ha hp) h1
  ·exact rr_ok ha hl
theorem rr_term{r s:Rc}(h:RC r s)(l k:List Tok)(hl:AT' l k):RR SE (termP en r l) (termP en' s k):=by
 unfold termP
 rw [al_len hl]
 exact rr_bind (rr_factor en en' h l k hl) fun _ _ _ _ hp h1=>rr_binL _ _ _ (rr_factor en en' h) _ _ _ _ _ hp h1
theorem rr_simple{r s:Rc}(h:RC r s)(l k:List Tok)(hl:AT' l k):RR SE (simpleP en r l) (simpleP en' s k):=by
 unfold simpleP
 rw [al_op hl,al_len hl]
 split
 ·exact rr_bind (rr_term en en' h _ _ (al_tail hl)) fun _ _ _ _ hp h1=>rr_binL _ _ _ (rr_term en en' h) _ _ _ _ _ (se_pos _ _ _ _ _ _ (.cons hp .nil)) h1
 ·exact rr_bind (rr_term en en' h _ _ hl) fun _ _ _ _ hp h1=>rr_binL _ _ _ (rr_term en en' h) _ _ _ _ _ hp h1
theorem rr_expr{r s:Rc}(h:RC r s)(l k:List Tok)(hl:AT' l k):RR SE (exprP en r l) (exprP en' s k):=by
 refine rr_bind (rr_simple en en' h l k hl) fun a b l1 k1 hp h1=>?_
 rw [al_op h1]
 split
 ·exact rr_bind (rr_simple en en' h _ _ (al_tail h1)) fun _ _ _ _ hq h2=>rr_ok (se_bin _ hp hq) h2
 ·exact rr_ok hp h1
theorem rr_qual(l k:List Tok)(hl:AT' l k):RR ST (qualP en l) (qualP en' k):=by
 refine rr_bind (rr_name en en' hl) fun a b l1 k1 hp h1=>?_
 rw [al_isS h1,hp.2.1]
 split
 ·exact rr_bind (rr_name en en' (al_tail h1)) fun c d l2 k2 hq h2=>by
   rw [hq.2.1]
   exact rr_ok (.mk _ _ _ _ _ _ _ _ _ _ _ _ _ _ _ _ _ .nil .nil .nil .nil .nil .nil) h2
 ·exact rr_ok (.mk _ _ _ _ _ _ _ _ _ _ _ _ _ _ _ _ _ .nil .nil .nil .nil .nil .nil) h1
theorem rr_open{r s:Rc}(h:RC r s)(l k:List Tok)(hl:AT' l k):RR ST (openP en r l) (openP en' s k):=by
 unfold openP
 rw [al_isS hl]
 split
 ·exact rr_bind (rr_skip en en' (al_tail hl) _) fun _ _ _ _ _ h1=>rr_bind (h.op _ _ h1) fun _ _ _ _ hp h2=>rr_ok (.mk _ _ _ _ _ _ _ _ _ _ _ _ _ _ _ _ _ .nil (.cons hp .nil) .nil .nil .nil .nil) h2
 ·exact rr_qual en en' l k hl
theorem al_took{l k:List Tok}(h:AT' l k)(w:List UInt8):(took w l).1=(took w k).1∧AT' (took w l).2 (took w k).2:=by
 unfold took
 rw [al_isS h]
 split
 ·exact⟨rfl,al_tail h⟩
 ·exact⟨rfl,h⟩
theorem rr_section{r s:Rc}(h:RC r s)(l k:List Tok)(hl:AT' l k):RR (Al (Fd ST)) (sectionP en r l) (sectionP en' s k):=by
 unfold sectionP
 simp only
 obtain⟨h1,h2⟩:=al_took hl [86,65,82]
 rw [h1,al_len hl]
 exact rr_bind (rr_many _ _ _ (fun l k h=>rr_name en en' h) _ _ _ h2) fun _ _ _ _ hp h3=>rr_bind (rr_skip en en' h3 _) fun _ _ _ _ _ h4=>rr_bind (rr_open en en' h _ _ h4) fun _ _ _ _ hq h5=>rr_ok (al_map hp fun a b hab=>by rw [hab.2.1];exact .mk _ _ _ _ _ _ hq) h5
def PF(x y:List (List UInt8 × Bool × Ty × Int) × List Ty):Prop:=Al (Fd ST) x.1 y.1∧Al ST x.2 y.2
theorem rr_formals{r s:Rc}(h:RC r s)(l k:List Tok)(hl:AT' l k):RR PF (formalsP en r l) (formalsP en' s k):=by
 unfold formalsP
 rw [al_len hl]
 refine rr_bind (rr_skip en en' hl _) fun _ _ l1 k1 _ h1=>rr_bind (P:=Al (Al (Fd ST))) ?_ fun ps qs l2 k2 hp h2=>rr_bind (rr_skip en en' h2 _) fun _ _ l3 k3 _ h3=>?_
 ·rw [al_isS h1]
  split
  ·exact rr_ok .nil h1
  ·exact rr_many _ _ _ (rr_section en en' h) _ _ _ h1
 ·rw [al_isS h3]
  split
  ·exact rr_bind (rr_qual en en' _ _ (al_tail h3)) fun _ _ _ _ hq h4=>rr_ok ⟨al_flatten hp,.cons hq .nil⟩ h4
  ·exact rr_ok ⟨al_flatten hp,.nil⟩ h3
def TB(x y:Tok × Bool):Prop:=TK x.1 y.1∧x.2=y.2
theorem rr_def(o:Bool)(l k:List Tok)(hl:AT' l k):RR TB (defT en o l) (defT en' o k):=by
 refine rr_bind (rr_name en en' hl) fun a b l1 k1 hp h1=>?_
 rw [al_isS h1]
 split
 ·exact rr_ok ⟨hp,rfl⟩ (al_tail h1)
 ·exact rr_ok ⟨hp,rfl⟩ h1
theorem rr_fields{r s:Rc}(h:RC r s)(l k:List Tok)(hl:AT' l k):RR (Al (Fd ST)) (fieldsP en r l) (fieldsP en' s k):=by
 unfold fieldsP
 rw [al_isN hl,al_len hl]
 split
 ·exact rr_bind (rr_many _ _ _ (rr_def en en' true) _ _ _ hl) fun _ _ _ _ hp h1=>rr_bind (rr_skip en en' h1 _) fun _ _ _ _ _ h2=>rr_bind (h.ty _ _ h2) fun _ _ _ _ hq h3=>rr_ok (al_map hp fun a b hab=>by rw [hab.1.2.1,hab.2];exact .mk _ _ _ _ _ _ hq) h3
 ·exact rr_ok .nil hl
theorem rr_typ{r s:Rc}(h:RC r s)(l k:List Tok)(hl:AT' l k):RR ST (typP en r l) (typP en' s k):=by
 unfold typP
 have htl:=al_tail hl
 rw [al_isS hl,al_isS hl,al_isS hl,al_isS hl,al_len hl,al_isS htl]
 split
 ·exact rr_bind (rr_many _ _ _ (rr_expr en en' h) _ _ _ htl) fun _ _ _ _ hp h1=>rr_bind (rr_skip en en' h1 _) fun _ _ _ _ _ h2=>rr_bind (h.ty _ _ h2) fun _ _ _ _ hq h3=>rr_ok (.mk _ _ _ _ _ _ _ _ _ _ _ _ _ _ _ _ _ hp (.cons hq .nil) .nil .nil .nil .nil) h3
 ·split
  ·refine rr_bind (P:=Al ST) ?_ fun bs cs l3 k3 hb h3=>rr_bind (rr_many _ _ _ (rr_fields en en' h) _ _ _ h3) fun _ _ _ _ hf h4=>rr_bind (rr_skip en en' h4 _) fun _ _ _ _ _ h5=>rr_ok (.mk _ _ _ _ _ _ _ _ _ _ _ _ _ _ _ _ _ .nil .nil hb (al_flatten hf) .nil .nil) h5
   split
   ·exact rr_bind (rr_qual en en' _ _ (al_tail htl)) fun _ _ _ _ hq h1=>rr_bind (rr_skip en en' h1 _) fun _ _ _ _ _ h2=>rr_ok (.cons hq .nil) h2
   ·exact rr_ok .nil htl
  ·split
   ·exact rr_bind (rr_skip en en' htl _) fun _ _ _ _ _ h1=>rr_bind (h.ty _ _ h1) fun _ _ _ _ hq h2=>rr_ok (.mk _ _ _ _ _ _ _ _ _ _ _ _ _ _ _ _ _ .nil (.cons hq .nil) .nil .nil .nil .nil) h2
   ·split
    ·split
     ·exact rr_bind (rr_formals en en' h _ _ htl) fun _ _ _ _ hq h2=>rr_ok (.mk _ _ _ _ _ _ _ _ _ _ _ _ _ _ _ _ _ .nil .nil .nil .nil hq.1 hq.2) h2
     ·exact rr_ok (.mk _ _ _ _ _ _ _ _ _ _ _ _ _ _ _ _ _ .nil .nil .nil .nil .nil .nil) htl
    ·exact rr_qual en en' l k hl
end Tr
namespace Tr
variable (en en':Int)
def PA(x y:Ex × List St):Prop:=SE x.1 y.1∧Al SS x.2 y.2
def PL(x y:List Ex × List St):Prop:=Al SE x.1 y.1∧Al SS x.2 y.2
inductive OptR{α:Type}(P:α→α→Prop):Option α→Option α→Prop where
 | none:OptR P none none
 | some {a b:α} (h:P a b):OptR P (some a) (some b)
theorem al_filter{α:Type}{P:α→α→Prop}{l k:List (Option α)}(h:Al (OptR P) l k):Al P (l.filterMap id) (k.filterMap id):=by
 induction h with
 | nil=>exact .nil
 | cons h t ih =>
  cases h with
  | none=>exact ih
  | some h=>exact .cons h ih
theorem rr_arms{r s:Rc}(h:RC r s)(w:List UInt8)(l k:List Tok)(hl:AT' l k):RR (Al PA) (armsP en r w l) (armsP en' s w k):=by
 unfold armsP
 rw [al_len hl]
 exact rr_many _ _ _ (fun l k hl=>rr_bind (rr_expr en en' h l k hl) fun _ _ _ _ hp h1=>rr_bind (rr_skip en en' h1 _) fun _ _ _ _ _ h2=>rr_bind (h.st _ _ h2) fun _ _ _ _ hq h3=>rr_ok ⟨hp,hq⟩ h3) _ _ _ hl
theorem rr_stat{r s:Rc}(h:RC r s)(l k:List Tok)(hl:AT' l k):RR (OptR SS) (statO en r l) (statO en' s k):=by
 unfold statO
 have htl:=al_tail hl
 simp only
 rw [al_isN hl,al_isS hl,al_isS hl,al_isS hl,al_isS hl,al_isS hl,al_len hl]
 split
 ·refine rr_bind (rr_design en en' h l k hl) fun _ _ l1 k1 hp h1=>?_
  rw [al_isS h1]
  split
  ·exact rr_bind (rr_expr en en' h _ _ (al_tail h1)) fun _ _ _ _ hq h2=>rr_ok (.some (.mk _ _ _ _ _ _ _ _ _ _ (.cons hp (.cons hq .nil)) .nil .nil)) h2
  ·exact rr_ok (.some (.mk _ _ _ _ _ _ _ _ _ _ (.cons hp .nil) .nil .nil)) h1
 ·split
  ·refine rr_bind (rr_arms en en' h _ _ _ htl) fun _ _ l1 k1 hp h1=>rr_bind (P:=Al (Al SS)) ?_ fun _ _ _ _ hq h2=>rr_bind (rr_skip en en' h2 _) fun _ _ _ _ _ h3=>rr_ok (.some (.mk _ _ _ _ _ _ _ _ _ _ (al_map hp fun _ _ hab=>hab.1) .nil (al_append (al_map hp fun _ _ hab=>hab.2) hq))) h3
   rw [al_isS h1]
   split
   ·exact rr_bind (h.st _ _ (al_tail h1)) fun _ _ _ _ hq h2=>rr_ok (.cons hq .nil) h2
   ·exact rr_ok .nil h1
  ·split
   ·exact rr_bind (rr_arms en en' h _ _ _ htl) fun _ _ _ _ hp h1=>rr_bind (rr_skip en en' h1 _) fun _ _ _ _ _ h3=>rr_ok (.some (.mk _ _ _ _ _ _ _ _ _ _ (al_map hp fun _ _ hab=>hab.1) .nil (al_map hp fun _ _ hab=>hab.2))) h3
   ·split
    ·refine rr_bind (rr_expr en en' h _ _ htl) fun _ _ l1 k1 he h1=>rr_bind (rr_skip en en' h1 _) fun _ _ l2 k2 _ h2=>rr_bind (rr_many (P:=OptR PL) _ _ _ (fun l k hl=>?_) _ _ _ h2) fun _ _ l3 k3 hc h3=>rr_bind (rr_skip en en' h3 _) fun _ _ _ _ _ h4 =>
      rr_ok (.some (.mk _ _ _ _ _ _ _ _ _ _ (.cons he .nil) (al_map (al_filter hc) fun _ _ hab=>hab.1) (al_map (al_filter hc) fun _ _ hab=>hab.2))) h4
     rw [al_start hl]
     split
     ·exact rr_ok .none hl
     ·exact rr_bind (rr_labels _ _ (rr_expr en en' h) _ _ hl) fun _ _ _ _ hp h1=>rr_bind (rr_skip en en' h1 _) fun _ _ _ _ _ h2=>rr_bind (h.st _ _ h2) fun _ _ _ _ hq h3=>rr_ok (.some ⟨hp,hq⟩) h3
    ·split
     ·exact rr_bind (h.st _ _ htl) fun _ _ _ _ hp h1=>rr_bind (rr_skip en en' h1 _) fun _ _ _ _ _ h2=>rr_bind (rr_expr en en' h _ _ h2) fun _ _ _ _ hq h3=>rr_ok (.some (.mk _ _ _ _ _ _ _ _ _ _ (.cons hq .nil) .nil (.cons hp .nil))) h3
     ·split
      ·refine rr_bind (rr_name en en' htl) fun t u _ _ ht h1=>rr_bind (rr_skip en en' h1 _) fun _ _ _ _ _ h2=>rr_bind (rr_expr en en' h _ _ h2) fun _ _ _ _ ha h3=>rr_bind (rr_skip en en' h3 _) fun _ _ _ _ _ h4=>rr_bind (rr_expr en en' h _ _ h4) fun _ _ l5 k5 hc h5=>rr_bind (P:=Al SE) ?_ fun _ _ _ _ hd h6=>rr_bind (rr_skip en en' h6 _) fun _ _ _ _ _ h7=>rr_bind (h.st _ _ h7) fun _ _ _ _ hs h8=>rr_bind (rr_skip en en' h8 _) fun _ _ _ _ _ h9=>by
        rw [ht.2.1]
        exact rr_ok (.some (.mk _ _ _ _ _ _ _ _ _ _ (.cons ha (.cons hc hd)) .nil (.cons hs .nil))) h9
       rw [al_isS h5]
       split
       ·exact rr_bind (rr_expr en en' h _ _ (al_tail h5)) fun _ _ _ _ hq h2=>rr_ok (.cons hq .nil) h2
       ·exact rr_ok .nil h5
      ·exact rr_ok .none hl
theorem rr_stats{r s:Rc}(h:RC r s)(l k:List Tok)(hl:AT' l k):RR (Al SS) (statsP en r l) (statsP en' s k):=by
 unfold statsP
 rw [al_len hl]
 exact rr_bind (rr_many _ _ _ (rr_stat en en' h) _ _ _ hl) fun _ _ _ _ hp h1=>rr_ok (al_filter hp) h1
theorem rc_pr:∀ n,RC (pr en n) (pr en' n)
 | 0=>⟨fun _ _ _=>rr_no _ _,fun _ _ _=>rr_no _ _,fun _ _ _=>rr_no _ _,fun _ _ _=>rr_no _ _,fun _ _ _=>rr_no _ _⟩
 | n+1=>⟨rr_expr en en' (rc_pr n),rr_factor en en' (rc_pr n),rr_typ en en' (rc_pr n),rr_open en en' (rc_pr n),rr_stats en en' (rc_pr n)⟩
/-! modules -/
inductive FC:(List UInt8 × Bool × Ex × Int)→(List UInt8 × Bool × Ex × Int)→Prop where
 | mk (n:List UInt8) (b:Bool) (t u:Ex) (p q:Int) (h:SE t u):FC (n,b,t,p) (n,b,u,q)
structure SD(x y:De):Prop where
 consts:Al FC x.consts y.consts
 types:Al (Fd ST) x.types y.types
 vars:Al (Fd ST) x.vars y.vars
structure SPr(x y:Pr):Prop where
 name:x.name=y.name
 out:x.out=y.out
 params:Al (Fd ST) x.params y.params
 result:Al ST x.result y.result
 de:SD x.de y.de
 body:Al SS x.body y.body
 ret:Al SE x.ret y.ret
def SI(x y:List UInt8 × List UInt8 × Int):Prop:=x.1=y.1∧x.2.1=y.2.1
structure SM(x y:Mo):Prop where
 name:x.name=y.name
 imports:Al SI x.imports y.imports
 de:SD x.de y.de
 procs:Al SPr x.procs y.procs
 body:Al SS x.body y.body
theorem rr_const{r s:Rc}(h:RC r s)(o:Bool)(l k:List Tok)(hl:AT' l k):RR FC (constP en r o l) (constP en' s o k):=
 rr_bind (rr_def en en' o l k hl) fun a b _ _ ht h1=>rr_bind (rr_skip en en' h1 _) fun _ _ _ _ _ h2=>rr_bind (rr_expr en en' h _ _ h2) fun _ _ _ _ hp h3=>rr_bind (rr_skip en en' h3 _) fun _ _ _ _ _ h4=>by
  rw [ht.1.2.1,ht.2]
  exact rr_ok (.mk _ _ _ _ _ _ hp) h4
theorem rr_type{r s:Rc}(h:RC r s)(o:Bool)(l k:List Tok)(hl:AT' l k):RR (Fd ST) (typeP en r o l) (typeP en' s o k):=
 rr_bind (rr_def en en' o l k hl) fun a b _ _ ht h1=>rr_bind (rr_skip en en' h1 _) fun _ _ _ _ _ h2=>rr_bind (rr_typ en en' h _ _ h2) fun _ _ _ _ hp h3=>rr_bind (rr_skip en en' h3 _) fun _ _ _ _ _ h4=>by
  rw [ht.1.2.1,ht.2]
  exact rr_ok (.mk _ _ _ _ _ _ hp) h4
theorem rr_var{r s:Rc}(h:RC r s)(o:Bool)(l k:List Tok)(hl:AT' l k):RR (Al (Fd ST)) (varP en r o l) (varP en' s o k):=by
 unfold varP
 rw [al_len hl]
 exact rr_bind (rr_many _ _ _ (rr_def en en' o) _ _ _ hl) fun _ _ _ _ ht h1=>rr_bind (rr_skip en en' h1 _) fun _ _ _ _ _ h2=>rr_bind (rr_typ en en' h _ _ h2) fun _ _ _ _ hp h3=>rr_bind (rr_skip en en' h3 _) fun _ _ _ _ _ h4=>rr_ok (al_map ht fun a b hab=>by rw [hab.1.2.1,hab.2];exact .mk _ _ _ _ _ _ hp) h4
theorem rr_decls{r s:Rc}(h:RC r s)(o:Bool)(l k:List Tok)(hl:AT' l k):RR SD (declsP en r o l) (declsP en' s o k):=by
 unfold declsP
 rw [al_len hl,al_isS hl]
 refine rr_bind (P:=Al FC) ?_ fun _ _ l1 k1 hc h1=>rr_bind (P:=Al (Fd ST)) ?_ fun _ _ l2 k2 ht h2=>rr_bind (P:=Al (Al (Fd ST))) ?_ fun _ _ l3 k3 hv h3=>rr_ok ⟨hc,ht,al_flatten hv⟩ h3
 ·split
  ·exact rr_while _ _ (rr_const en en' h o) _ _ _ (al_tail hl)
  ·exact rr_ok .nil hl
 ·rw [al_isS h1]
  split
  ·exact rr_while _ _ (rr_type en en' h o) _ _ _ (al_tail h1)
  ·exact rr_ok .nil h1
 ·rw [al_isS h2]
  split
  ·exact rr_while _ _ (rr_var en en' h o) _ _ _ (al_tail h2)
  ·exact rr_ok .nil h2
theorem rr_ends(w:List UInt8)(l k:List Tok)(hl:AT' l k):RR (fun _ _=>True) (endsP en w l) (endsP en' w k):=by
 refine rr_bind (rr_skip en en' hl _) fun _ _ l1 k1 _ h1=>?_
 rw [al_isN h1,(al_peek (en:=en) (en':=en') h1).2.1]
 split
 ·exact rr_ok trivial (al_tail h1)
 ·exact rr_no _ _
theorem rr_proc{r s:Rc}(h:RC r s)(l k:List Tok)(hl:AT' l k):RR SPr (procP en r l) (procP en' s k):=by
 refine rr_bind (rr_skip en en' hl _) fun _ _ l1 k1 _ h1=>rr_bind (rr_def en en' true _ _ h1) fun t u l2 k2 ht h2=>rr_bind (P:=PF) ?_ fun f g l3 k3 hf h3=>rr_bind (rr_skip en en' h3 _) fun _ _ l4 k4 _ h4=>rr_bind (rr_decls en en' h false _ _ h4) fun d e l5 k5 hd h5=>rr_bind (P:=Al SS) ?_ fun _ _ l6 k6 hs h6=>rr_bind (P:=Al SE) ?_ fun _ _ l7 k7 hr h7=>?_
 ·rw [al_isS h2]
  split
  ·exact rr_formals en en' h _ _ h2
  ·exact rr_ok ⟨.nil,.nil⟩ h2
 ·rw [al_isS h5]
  split
  ·exact rr_stats en en' h _ _ (al_tail h5)
  ·exact rr_ok .nil h5
 ·rw [al_isS h6]
  split
  ·exact rr_bind (rr_expr en en' h _ _ (al_tail h6)) fun _ _ _ _ hq h2=>rr_ok (.cons hq .nil) h2
  ·exact rr_ok .nil h6
 ·rw [ht.1.2.1]
  exact rr_bind (rr_ends en en' _ _ _ h7) fun _ _ _ _ _ h8=>rr_ok ⟨rfl,ht.2,hf.1,hf.2,hd,hs,hr⟩ h8
theorem rr_procs{r s:Rc}(h:RC r s):∀ n l k,AT' l k→RR (Al SPr) (procsP en r n l) (procsP en' s n k):=by
 intro n
 induction n with
 | zero=>intro l k _;exact rr_no _ _
 | succ n ih =>
  intro l k hl
  unfold procsP
  rw [al_isS hl]
  split
  ·exact rr_bind (rr_proc en en' h _ _ hl) fun _ _ _ _ hp h1=>rr_bind (rr_skip en en' h1 _) fun _ _ _ _ _ h2=>rr_bind (ih _ _ h2) fun _ _ _ _ hq h3=>rr_ok (.cons hp hq) h3
  ·exact rr_ok .nil hl
theorem rr_import(l k:List Tok)(hl:AT' l k):RR SI (importP en l) (importP en' k):=by
 refine rr_bind (rr_name en en' hl) fun a b l1 k1 hp h1=>?_
 rw [al_isS h1,hp.2.1]
 split
 ·exact rr_bind (rr_name en en' (al_tail h1)) fun c d l2 k2 hq h2=>rr_ok ⟨rfl,hq.2.1⟩ h2
 ·exact rr_ok ⟨rfl,rfl⟩ h1
theorem rr_module{r s:Rc}(h:RC r s)(l k:List Tok)(hl:AT' l k):RR SM (moduleP en r l) (moduleP en' s k):=by
 unfold moduleP
 rw [al_len hl]
 refine rr_bind (rr_skip en en' hl _) fun _ _ l1 k1 _ h1=>rr_bind (rr_name en en' h1) fun t u l2 k2 ht h2=>rr_bind (rr_skip en en' h2 _) fun _ _ l3 k3 _ h3=>rr_bind (P:=Al SI) ?_ fun _ _ l5 k5 hi h5=>rr_bind (rr_decls en en' h true _ _ h5) fun _ _ l6 k6 hd h6=>rr_bind (rr_procs en en' h _ _ _ h6) fun _ _ l7 k7 hp h7=>rr_bind (P:=Al SS) ?_ fun _ _ l8 k8 hs h8=>?_
 ·rw [al_isS h3]
  split
  ·exact rr_bind (rr_many _ _ _ (rr_import en en') _ _ _ (al_tail h3)) fun _ _ _ _ hp h4=>rr_bind (rr_skip en en' h4 _) fun _ _ _ _ _ h5=>rr_ok hp h5
  ·exact rr_ok .nil h3
 ·rw [al_isS h7]
  split
  ·exact rr_stats en en' h _ _ (al_tail h7)
  ·exact rr_ok .nil h7
 ·rw [ht.2.1]
  exact rr_bind (rr_ends en en' _ _ _ h8) fun _ _ _ _ _ h9=>rr_bind (rr_skip en en' h9 _) fun _ _ _ _ _ h10=>rr_ok ⟨rfl,hi,hd,hp,hs⟩ h10
theorem parsed_alike{l k:List Tok}(hl:AT' l k){m:Mo}(h:parsedP en l=.ok m):∃ m',parsedP en' k=.ok m'∧SM m m':=by
 have hr:=rr_module en en' (rc_pr en en' (l.length+1)) l k hl
 unfold parsedP at h ⊢
 rw [← al_len hl]
 split at h
 ·rename_i m1 l1 hm
  split at h
  ·rename_i hn
   cases h
   subst hn
   rw [hm]at hr
   cases hk:moduleP en' (pr en' (l.length+1)) k with
   | no p=>rw [hk]at hr;exact hr.elim
   | ok m' k1 =>
    rw [hk]at hr
    obtain⟨h1,h2⟩:=hr
    cases h2
    exact⟨m',rfl,h1⟩
  ·cases h
 ·cases h
end Tr
namespace Tr
/-! alike -/
mutual
theorem ex_al:∀(e f:Ex) (d:Int) (w:Wk),SE e f→exW e d w=exW f d w
 | .mk kd n t o as p,f,d,w,h=>by
  cases h with
  | mk _ _ _ _ _ bs _ q h=>simp only [exW,al_len h];exact exs_al as bs _ _ h
theorem exs_al:∀(l k:List Ex) (d:Int) (w:Wk),Al SE l k→exsW l d w=exsW k d w
 | [],k,d,w,h=>by cases h;rfl
 | e::es,k,d,w,h=>by
  cases h with
  | cons h1 h2=>simp only [exsW];rw [ex_al e _ d _ h1,exs_al es _ d _ h2]
end
mutual
theorem ty_al:∀(e f:Ty) (d:Int) (w:Wk),ST e f→tyW e d w=tyW f d w
 | .mk kd m n ls el ba fs ps rs p,f,d,w,h=>by
  cases h with
  | mk _ _ _ _ ls' _ el' _ bs' _ fs' _ ps' _ rs' _ q h1 h2 h3 h4 h5 h6 =>
   simp only [tyW,al_len h1,al_len h2,al_len h3,al_len h4,al_len h5,al_len h6]
   rw [exs_al ls ls' _ _ h1,tys_al ba bs' _ _ h3,tys_al el el' _ _ h2,fds_al fs fs' _ _ h4,fds_al ps ps' _ _ h5,tys_al rs rs' _ _ h6]
theorem tys_al:∀(l k:List Ty) (d:Int) (w:Wk),Al ST l k→tysW l d w=tysW k d w
 | [],k,d,w,h=>by cases h;rfl
 | e::es,k,d,w,h=>by
  cases h with
  | cons h1 h2=>simp only [tysW];rw [ty_al e _ d _ h1,tys_al es _ d _ h2]
theorem fds_al:∀(l k:List (List UInt8 × Bool × Ty × Int)) (d:Int) (w:Wk),Al (Fd ST) l k→fdsW l d w=fdsW k d w
 | [],k,d,w,h=>by cases h;rfl
 | (n,b,t,p)::es,k,d,w,h=>by
  cases h with
  | cons h1 h2 =>
   cases h1 with
   | mk _ _ _ u _ q h1=>simp only [fdsW];rw [ty_al t u d _ h1,fds_al es _ d _ h2]
end
theorem lab_al:∀(l k:List (List Ex)) (d:Int) (w:Wk),Al (Al SE) l k→labW l d w=labW k d w
 | [],k,d,w,h=>by cases h;rfl
 | e::es,k,d,w,h=>by
  cases h with
  | cons h1 h2=>simp only [labW,al_len h1];rw [exs_al e _ d _ h1,lab_al es _ d _ h2]
mutual
theorem st_al:∀(e f:St) (d:Int) (w:Wk),SS e f→stW e d w=stW f d w
 | .mk kd n es ls bs p,f,d,w,h=>by
  cases h with
  | mk _ _ _ es' _ ls' _ bs' _ q h1 h2 h3 =>
   simp only [stW,al_len h1,al_len h2,al_len h3]
   rw [exs_al es es' _ _ h1,lab_al ls ls' _ _ h2,bls_al bs bs' _ _ h3]
theorem stl_al:∀(l k:List St) (d:Int) (w:Wk),Al SS l k→stsL l d w=stsL k d w
 | [],k,d,w,h=>by cases h;rfl
 | e::es,k,d,w,h=>by
  cases h with
  | cons h1 h2=>simp only [stsL];rw [st_al e _ d _ h1,stl_al es _ d _ h2]
theorem bls_al:∀(l k:List (List St)) (d:Int) (w:Wk),Al (Al SS) l k→blsW l d w=blsW k d w
 | [],k,d,w,h=>by cases h;rfl
 | e::es,k,d,w,h=>by
  cases h with
  | cons h1 h2=>simp only [blsW,al_len h1];rw [stl_al e _ d _ h1,bls_al es _ d _ h2]
end
theorem sts_al{l k:List St}{d:Int}{w:Wk}(h:Al SS l k):stsW l d w=stsW k d w:=by unfold stsW;rw [al_len h,stl_al _ _ _ _ h]
theorem cns_al:∀(l k:List (List UInt8 × Bool × Ex × Int)) (w:Wk),Al FC l k→cnsW l w=cnsW k w
 | [],k,w,h=>by cases h;rfl
 | (n,b,e,p)::es,k,w,h=>by
  cases h with
  | cons h1 h2 =>
   cases h1 with
   | mk _ _ _ u _ q h1=>simp only [cnsW];rw [exs_al [e] [u] _ _ (.cons h1 .nil),cns_al es _ _ h2]
theorem decls_al{x y:De}{w:Wk}(h:SD x y):declsW x w=declsW y w:=by
 unfold declsW
 rw [al_len h.consts,al_len h.types,al_len h.vars,cns_al _ _ _ h.consts,fds_al _ _ _ _ h.types,fds_al _ _ _ _ h.vars]
theorem proc_al{x y:Pr}{w:Wk}(h:SPr x y):procW x w=procW y w:=by
 unfold procW
 rw [al_len h.params,fds_al _ _ _ _ h.params,tys_al _ _ _ _ h.result,decls_al h.de,sts_al h.body,exs_al _ _ _ _ h.ret]
theorem procs_al:∀(l k:List Pr) (w:Wk),Al SPr l k→procsW l w=procsW k w
 | [],k,w,h=>by cases h;rfl
 | e::es,k,w,h=>by
  cases h with
  | cons h1 h2=>simp only [procsW];rw [proc_al h1,procs_al es _ _ h2]
theorem walk_al{x y:Mo}(h:SM x y):walkW x=walkW y:=by
 unfold walkW moW
 rw [al_len h.imports,al_len h.procs,decls_al h.de,procs_al _ _ _ h.procs,sts_al h.body]
theorem lim_al{x y:Mo}(h:SM x y):limW x=limW y:=by unfold limW;rw [walk_al h]
end Tr
namespace Tr
end Tr
end Go.Proofs.YtlhmkfcbldghfaaGreatDoor
