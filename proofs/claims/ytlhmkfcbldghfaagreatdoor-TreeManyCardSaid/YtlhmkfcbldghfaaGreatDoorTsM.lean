/- The module that TreeMany writes,read;plain. No program in sight. Conditions: none. -/
import Derived.Test.YtlhmkfcbldghfaaGreatDoorTrB
namespace Go.Proofs.YtlhmkfcbldghfaaGreatDoor
set_option linter.all false
namespace Tr
abbrev tS(w:List UInt8):Tok:=(6,w,0,0)
abbrev tK(w:List UInt8):Tok:=(2,w,0,0)
abbrev tN(w:List UInt8):Tok:=(1,w,0,0)
def kEND:List UInt8:=[69,78,68]
def Stop(l:List Tok):Prop:=(∃ u,l=tS [59]::u)∨∃ u,l=tK kEND::u
theorem stop_is{l:List Tok}(h:Stop l){w:List UInt8}(h1:w ≠ [59])(h2:w ≠ kEND):isS w l=false:=by
 rcases h with⟨u,rfl⟩|⟨u,rfl⟩
 ·simp [isS];exact fun e=>h1 e.symm
 ·simp [isS];exact fun e=>h2 e.symm
theorem stop_op{l:List Tok}(h:Stop l){ws:List (List UInt8)}(h1:[59] ∉ ws)(h2:kEND ∉ ws):opT ws l=none:=by
 rcases h with⟨u,rfl⟩|⟨u,rfl⟩
 ·simp [opT];exact h1
 ·simp [opT];exact h2
def nest:Nat→Ex
 | 0 => .mk 8 0 [121] [] [] 0
 | d+1 => .mk 13 0 [] [126] [nest d] 0
theorem designL_stop(r:Rc)(n:Nat)(e:Ex)(l:List Tok)(h:Stop l):designL 0 r (n+1) e l=.ok e l:=by
 unfold designL
 rw [if_neg (by rw [stop_is h (by decide) (by decide)];decide),if_neg (by rw [stop_is h (by decide) (by decide)];decide),if_neg (by rw [stop_is h (by decide) (by decide)];decide),if_neg (by rw [stop_is h (by decide) (by decide)];decide)]
theorem design_stop(r:Rc)(w:List UInt8)(l:List Tok)(h:Stop l):designP 0 r (tN w::l)=.ok (.mk 8 0 w [] [] 0) l:=by
 show designL 0 r ((tN w::l).length+1) (.mk 8 0 w [] [] 0) l=_
 exact designL_stop _ _ _ _ h
theorem binL_stop(os:List (List UInt8))(F:List Tok→R Ex)(n:Nat)(e:Ex)(l:List Tok)(h:Stop l)(h1:[59] ∉ os)(h2:kEND ∉ os):binL os F (n+1) e l=.ok e l:=by
 unfold binL
 rw [stop_op h h1 h2]
theorem factor_nest:∀ d N l,Stop l→d≤N→factorP 0 (pr 0 N) (List.replicate d (tS [126])++tN [121]::l)=.ok (nest d) l:=by
 intro d
 induction d with
 | zero =>
  intro N l h _
  unfold factorP
  simp only [List.replicate_zero,List.nil_append]
  rw [if_pos (by rfl),design_stop _ _ _ h]
  rfl
 | succ d ih =>
  intro N l h hN
  obtain⟨N',rfl⟩:∃ N',N=N'+1:=⟨N - 1,by omega⟩
  have:=ih N' l h (by omega)
  rw [List.replicate_succ,List.cons_append]
  generalize List.replicate d (tS [126])++tN [121]::l=t at *
  show(factorP 0 (pr 0 N') t).bind _=_
  rw [this]
  rfl
theorem expr_nest(d N:Nat)(l:List Tok)(h:Stop l)(hN:d≤N):exprP 0 (pr 0 N) (List.replicate d (tS [126])++tN [121]::l)=.ok (nest d) l:=by
 have hf:=factor_nest d N l h hN
 have ho:opT [[43],[45]] (List.replicate d (tS [126])++tN [121]::l)=none:=by
  cases d with
  | zero=>rfl
  | succ d=>rw [List.replicate_succ];rfl
 have ht:termP 0 (pr 0 N) (List.replicate d (tS [126])++tN [121]::l)=.ok (nest d) l:=by
  unfold termP
  rw [hf]
  exact binL_stop _ _ _ _ _ h (by decide) (by decide)
 have hs:simpleP 0 (pr 0 N) (List.replicate d (tS [126])++tN [121]::l)=.ok (nest d) l:=by
  unfold simpleP
  rw [ho]
  simp only
  rw [ht]
  exact binL_stop _ _ _ _ _ h (by decide) (by decide)
 unfold exprP
 rw [hs]
 show(match opT relOps l with|some o=>_|none=>_)=_
 rw [stop_op h (by decide) (by decide)]
theorem stat_asg(d N:Nat)(l:List Tok)(h:Stop l)(hN:d≤N):statO 0 (pr 0 N) (tN [120]::tS [58,61]::(List.replicate d (tS [126])++tN [121]::l))=.ok (some (.mk 1 [] [.mk 8 0 [120] [] [] 0,nest d] [] [] 0)) l:=by
 have he:=expr_nest d N l h hN
 generalize List.replicate d (tS [126])++tN [121]::l=t at *
 have hd:designP 0 (pr 0 N) (tN [120]::tS [58,61]::t)=.ok (.mk 8 0 [120] [] [] 0) (tS [58,61]::t):=rfl
 unfold statO
 simp only
 rw [if_pos (by rfl),hd]
 show(exprP 0 (pr 0 N) t).bind (fun e l2=>R.ok (some (St.mk 1 [] [.mk 8 0 [120] [] [] 0,e] [] [] 0)) l2)=_
 rw [he]
 rfl
theorem stat_call(r:Rc)(l:List Tok)(h:Stop l):statO 0 r (tN [122]::l)=.ok (some (.mk 2 [] [.mk 8 0 [122] [] [] 0] [] [] 0)) l:=by
 unfold statO
 simp only
 rw [if_pos (by rfl),design_stop _ _ _ h]
 show(if isS [58,61] l=true then _ else _)=_
 rw [if_neg (by rw [stop_is h (by decide) (by decide)];decide)]
 rfl
def zs(n:Nat)(e:List Tok):List Tok:=(List.replicate n [tS [59],tN [122]]).flatten++e
theorem zs_stop(n:Nat)(e:List Tok)(h:∃ u,e=tK kEND::u):Stop (zs n e):=by
 cases n with
 | zero=>obtain⟨u,rfl⟩:=h;exact .inr ⟨u,rfl⟩
 | succ n=>exact .inl ⟨_,rfl⟩
theorem stats_zs(r:Rc)(e:List Tok)(he:∃ u,e=tK kEND::u):∀ n m,n<m→manyC [59] (statO 0 r) m (tN [122]::zs n e)=.ok (List.replicate (n+1) (some (.mk 2 [] [.mk 8 0 [122] [] [] 0] [] [] 0))) e:=by
 intro n
 induction n with
 | zero =>
  intro m hm
  obtain⟨m',rfl⟩:∃ m',m=m'+1:=⟨m - 1,by omega⟩
  show(statO 0 r (tN [122]::zs 0 e)).bind _=_
  rw [stat_call _ _ (zs_stop 0 e he)]
  obtain⟨u,rfl⟩:=he
  rfl
 | succ n ih =>
  intro m hm
  obtain⟨m',rfl⟩:∃ m',m=m'+1:=⟨m - 1,by omega⟩
  have hz:zs (n+1) e=tS [59]::tN [122]::zs n e:=by simp [zs,List.replicate_succ]
  have:=ih m' (by omega)
  show(statO 0 r (tN [122]::zs (n+1) e)).bind _=_
  rw [stat_call _ _ (zs_stop (n+1) e he),hz]
  show(manyC [59] (statO 0 r) m' (tN [122]::zs n e)).bind (fun as l2=>R.ok (some (St.mk 2 [] [.mk 8 0 [122] [] [] 0] [] [] 0)::as) l2)=_
  rw [this]
  rfl
def manyT(n d:Nat):List Tok:=
 tK [77,79,68,85,76,69]::tN [77]::tS [59]::tK [66,69,71,73,78]::tN [120]::tS [58,61]::(List.replicate d (tS [126])++tN [121]::zs n [tK kEND,tN [77],tS [46]])
def callZ:St:=.mk 2 [] [.mk 8 0 [122] [] [] 0] [] [] 0
def asgX(d:Nat):St:=.mk 1 [] [.mk 8 0 [120] [] [] 0,nest d] [] [] 0
theorem stats_many'(n d N:Nat)(hN:d≤N)(e:List Tok)(he:∃ u,e=tK kEND::u)(m:Nat)(hm:n+1<m) :
  manyC [59] (statO 0 (pr 0 N)) m (tN [120]::tS [58,61]::(List.replicate d (tS [126])++tN [121]::zs n e))=.ok (some (asgX d)::List.replicate n (some callZ)) e:=by
 have h1:=stat_asg d N (zs n e) (zs_stop n e he) hN
 generalize List.replicate d (tS [126])++tN [121]::zs n e=t at *
 obtain⟨m',rfl⟩:∃ m',m=m'+1:=⟨m - 1,by omega⟩
 show(statO 0 (pr 0 N) (tN [120]::tS [58,61]::t)).bind _=_
 rw [h1]
 cases n with
 | zero =>
  obtain⟨u,rfl⟩:=he
  rfl
 | succ n =>
  have h2:=stats_zs (pr 0 N) e he n m' (by omega)
  have hz:zs (n+1) e=tS [59]::tN [122]::zs n e:=by simp [zs,List.replicate_succ]
  rw [hz]
  show(manyC [59] (statO 0 (pr 0 N)) m' (tN [122]::zs n e)).bind (fun as l2=>R.ok (some (asgX d)::as) l2)=_
  rw [h2]
  rfl
theorem filter_cons{α:Type}(a:α)(l:List (Option α)):(some a::l).filterMap id=a::l.filterMap id:=rfl
theorem filter_some{α:Type}(a:α):∀ n:Nat,(List.replicate n (some a)).filterMap id=List.replicate n a
 | 0=>rfl
 | n+1=>by rw [List.replicate_succ,List.replicate_succ,filter_cons,filter_some a n]
theorem zs_len(n:Nat)(e:List Tok):(zs n e).length=2 * n+e.length:=by
 induction n with
 | zero=>simp [zs]
 | succ n ih =>
  have hz:zs (n+1) e=tS [59]::tN [122]::zs n e:=by simp [zs,List.replicate_succ]
  rw [hz];simp [ih];omega
theorem many_parsed(n d:Nat):parsedP 0 (manyT n d)=.ok ⟨[77],[],⟨[],[],[]⟩,[],asgX d::List.replicate n callZ,0⟩:=by
 have hl:(manyT n d).length=d+2 * n+10:=by simp [manyT,zs_len];omega
 have hs:∀ N,d≤N→statsP 0 (pr 0 N) (tN [120]::tS [58,61]::(List.replicate d (tS [126])++tN [121]::zs n [tK kEND,tN [77],tS [46]]))=.ok (asgX d::List.replicate n callZ) [tK kEND,tN [77],tS [46]]:=fun N hN=>by
  unfold statsP
  rw [stats_many' n d N hN _ ⟨_,rfl⟩ _ (by simp [zs_len];omega)]
  show R.ok (List.filterMap id (some (asgX d)::List.replicate n (some callZ))) _=_
  rw [filter_cons,filter_some]
 have hs2:=hs ((manyT n d).length+1) (by omega)
 unfold parsedP
 generalize pr 0 ((manyT n d).length+1)=r at *
 have hm:moduleP 0 r (manyT n d)=.ok ⟨[77],[],⟨[],[],[]⟩,[],asgX d::List.replicate n callZ,0⟩ []:=by
  unfold manyT
  generalize List.replicate d (tS [126])++tN [121]::zs n [tK kEND,tN [77],tS [46]]=t at *
  show(statsP 0 r (tN [120]::tS [58,61]::t)).bind (fun s l8=>(endsP 0 [77] l8).bind fun _ l9=>(skip 0 [46] l9).bind fun _ l10=>R.ok (Mo.mk [77] [] ⟨[],[],[]⟩ [] s 0) l10)=_
  rw [hs2]
  rfl
 rw [hm]
 rfl
end Tr
namespace Tr
def LX(l:List UInt8)(ts:List Tok):Prop:=∀ p k,k+ts.length≤6000→∃ q,Tk.lexF l p k=.ok q∧AT' ts q
theorem lx_nil:LX [] []:=fun p k _=>⟨[],Tk.lexF_nil _ _,.nil⟩
theorem lx_blank{t:List UInt8}{ts:List Tok}(h:LX t ts):LX (32::t) ts:=fun p k hk=>by
 obtain⟨q,h1,h2⟩:=h (p+1) k hk
 exact⟨q,by rw [Tk.lexF_blank p k (by decide)];exact h1,h2⟩
theorem lx_tok{c:UInt8}{t:List UInt8}{ts:List Tok}{kd n:Int}{w:List UInt8}{m:Nat}(hb:Tk.blank c=false)(ho:Tk.opens (c::t)=false)(ht:Tk.tokF (c::t)=.ok (kd,w,n,m))(h:LX ((c::t).drop m) ts):LX (c::t) ((kd,w,n,0)::ts):=fun p k hk=>by
 simp only [List.length_cons]at hk
 obtain⟨q,h1,h2⟩:=h (p+m) (k+1) (by omega)
 refine⟨(kd,w,n,(p:Int))::q,?_,.cons ⟨rfl,rfl,rfl⟩ h2⟩
 rw [Tk.lexF_tok p k hb ho ht,if_neg (by omega),h1]
theorem no_open{c:UInt8}(t:List UInt8)(h:c ≠ 40):Tk.opens (c::t)=false:=by
 cases t with
 | nil=>simp [Tk.opens]
 | cons a u=>simp [Tk.opens,h]
theorem lx_sign{c:UInt8}{t:List UInt8}{ts:List Tok}(hb:Tk.blank c=false)(h40:c ≠ 40)(hl:Tk.letter c=false∧Tk.digit c=false∧c ≠ 34)(h1:c∈Tk.signs1)(h2:((c::t).take 2) ∉ Tk.signs2)(h:LX t ts):LX (c::t) (tS [c]::ts):=by
 refine lx_tok hb (no_open t h40) (m:=1) ?_ h
 unfold Tk.tokF
 simp only
 rw [if_neg (by rw [hl.1];decide),if_neg (by rw [hl.2.1];decide),if_neg hl.2.2]
 unfold Tk.signT
 rw [if_neg h2]
 simp only
 rw [if_pos h1]
theorem lx_one{c e:UInt8}{t:List UInt8}{ts:List Tok}(hb:Tk.blank c=false)(h40:c ≠ 40)(hc:Tk.letter c=true)(he:Tk.inside e=false)(hk:[c] ∉ Tk.keys)(h:LX (e::t) ts):LX (c::e::t) (tN [c]::ts):=by
 refine lx_tok hb (no_open _ h40) (m:=1) ?_ h
 have hi:Tk.inside c=true:=by simp [Tk.inside,hc]
 have hw:(c::e::t).takeWhile Tk.inside=[c]:=by
  rw [List.takeWhile_cons,if_pos hi,List.takeWhile_cons,if_neg (by rw [he];decide)]
 unfold Tk.tokF
 simp only
 rw [if_pos hc]
 unfold Tk.wordT
 simp only
 rw [hw,if_neg hk,if_neg (by simp)]
 rfl
theorem lx_key{w z:List UInt8}{ts:List Tok}(hw:w∈Tk.keys)(h:LX (32::z) ts):LX (w++32::z) (tK w::ts):=fun p k hk=>by
 simp only [List.length_cons]at hk
 have hg:Tk.Good 2 w 0:=.inr (.inl ⟨rfl,rfl,hw⟩)
 have hs:=(Tk.good_spelt hg).whole
 rw [show Tk.spell 2 w 0=w from rfl]at hs
 obtain⟨q,h1,h2⟩:=h (p+w.length) (k+1) (by omega)
 have hl:=Tk.lex_whole hs (z:=32::z) (.inr ⟨32,z,rfl,by simp⟩) p k (by omega)
 rw [h1]at hl
 exact⟨_,hl,.cons ⟨rfl,rfl,rfl⟩ h2⟩
theorem lx_asg{t:List UInt8}{ts:List Tok}(h:LX t ts):LX (58::61::t) (tS [58,61]::ts):=by
 refine lx_tok (by decide) (no_open _ (by decide)) (m:=2) ?_ h
 rfl
def manyB(n d:Nat):List UInt8:=
 [77,79,68,85,76,69,32,77,59,32,66,69,71,73,78,32,120,32,58,61,32]++(List.replicate d 126++121::((List.replicate n [59,32,122]).flatten++[32,69,78,68,32,77,46]))
theorem key_in:[77,79,68,85,76,69]∈Tk.keys∧[66,69,71,73,78]∈Tk.keys∧[69,78,68]∈Tk.keys∧[77] ∉ Tk.keys∧[120] ∉ Tk.keys∧[121] ∉ Tk.keys∧[122] ∉ Tk.keys:=by decide +kernel
theorem lx_end:LX [69,78,68,32,77,46] [tK kEND,tN [77],tS [46]]:=
 lx_key (w:=[69,78,68]) key_in.2.2.1 (lx_blank (lx_one (by decide) (by decide) (by decide) (by decide) key_in.2.2.2.1 (lx_sign (by decide) (by decide) (by decide) (by decide) (by decide) lx_nil)))
theorem lx_zs(c:UInt8)(hb:Tk.blank c=false)(h40:c ≠ 40)(hc:Tk.letter c=true)(hk:[c] ∉ Tk.keys):∀ n,LX (c::((List.replicate n [59,32,122]).flatten++[32,69,78,68,32,77,46])) (tN [c]::zs n [tK kEND,tN [77],tS [46]]):=by
 intro n
 induction n generalizing c with
 | zero=>exact lx_one hb h40 hc (by decide) hk (lx_blank lx_end)
 | succ n ih =>
  have hz:zs (n+1) [tK kEND,tN [77],tS [46]]=tS [59]::tN [122]::zs n [tK kEND,tN [77],tS [46]]:=by simp [zs,List.replicate_succ]
  rw [hz]
  have:=ih 122 (by decide) (by decide) (by decide) key_in.2.2.2.2.2.2
  rw [List.replicate_succ,List.flatten_cons]
  exact lx_one hb h40 hc (by decide) hk (lx_sign (by decide) (by decide) (by decide) (by decide) (by simp [Tk.signs2]) (lx_blank this))
theorem many_lex(n d:Nat):LX (manyB n d) (manyT n d):=by
 have hd:∀ d,LX (List.replicate d 126++121::((List.replicate n [59,32,122]).flatten++[32,69,78,68,32,77,46])) (List.replicate d (tS [126])++tN [121]::zs n [tK kEND,tN [77],tS [46]]):=by
  intro d
  induction d with
  | zero=>exact lx_zs 121 (by decide) (by decide) (by decide) key_in.2.2.2.2.2.1 n
  | succ d ih =>
   rw [List.replicate_succ,List.replicate_succ]
   exact lx_sign (by decide) (by decide) (by decide) (by decide) (by cases d <;> simp [Tk.signs2,List.replicate_succ]) ih
 exact lx_key (w:=[77,79,68,85,76,69]) key_in.1 (lx_blank (lx_one (by decide) (by decide) (by decide) (by decide) key_in.2.2.2.1 (lx_sign (by decide) (by decide) (by decide) (by decide) (by simp [Tk.signs2]) (lx_blank
  (lx_key (w:=[66,69,71,73,78]) key_in.2.1 (lx_blank (lx_one (by decide) (by decide) (by decide) (by decide) key_in.2.2.2.2.1 (lx_blank (lx_asg (lx_blank (hd d))))))))))) 
theorem many_read(n d:Nat)(hn:d+2 * n+10≤6000):∃ q m,Tk.lexF (manyB n d) 0 0=.ok q∧parsedP ((manyB n d).length:Int) q=.ok m∧SM ⟨[77],[],⟨[],[],[]⟩,[],asgX d::List.replicate n callZ,0⟩ m:=by
 obtain⟨q,h1,h2⟩:=many_lex n d 0 0 (by simp [manyT,zs_len];omega)
 obtain⟨m,h3,h4⟩:=parsed_alike 0 ((manyB n d).length:Int) h2 (many_parsed n d)
 exact⟨q,m,h1,h3,h4⟩
end Tr
namespace Tr
theorem wrap_in{z:Int}(h:0≤z)(h2:z≤100000):RowKit.wrap64 z=z:=by
 unfold RowKit.wrap64
 omega
theorem node_in{d:Int}{w:Wk}(h:0<w.left)(h2:w.left≤4000):nodeW d w=⟨w.left - 1,if w.deepest<d then d else w.deepest,w.long⟩:=by
 unfold nodeW
 rw [wrap_in (by omega) (by omega)]
theorem list_in{n:Nat}(w:Wk)(h:n≤64):listW n w=w:=by
 unfold listW
 rw [decide_eq_false (by omega),Bool.or_false]
theorem exs_one(e:Ex)(d:Int)(w:Wk)(h:0<w.left)(h2:w.left≤4000):exsW [e] d w=exW e d ⟨w.left - 1,if w.deepest<d then d else w.deepest,w.long⟩:=by
 show(if (nodeW d w).left<0 then nodeW d w else exsW [] d (exW e d (nodeW d w)))=_
 rw [node_in h h2,if_neg (by simp only;omega)]
 rfl
theorem nest_walk:∀(d:Nat) (p:Int) (w:Wk),0≤p→p+d≤1000→(d:Int)<w.left→w.left≤4000→exsW [nest d] p w=⟨w.left - (d+1),if w.deepest<p+d then p+d else w.deepest,w.long⟩:=by
 intro d
 induction d with
 | zero =>
  intro p w h1 h2 h3 h4
  rw [exs_one _ _ _ (by omega) h4]
  show exsW [] (up p) (listW 0 _)=_
  rw [list_in _ (by omega)]
  simp [exsW]
 | succ d ih =>
  intro p w h1 h2 h3 h4
  rw [exs_one _ _ _ (by omega) h4]
  show exsW [nest d] (up p) (listW 1 _)=_
  rw [list_in _ (by omega)]
  have hu:up p=p+1:=wrap_in (by omega) (by omega)
  rw [hu,ih _ _ (by omega) (by omega) (by simp only;omega) (by simp only;omega)]
  simp only [Wk.mk.injEq,and_true]
  refine⟨by omega,?_⟩
  repeat' split
  all_goals omega
theorem one_walk(k n p q:Int)(t o:List UInt8)(w:Wk)(h:0<w.left)(h2:w.left≤4000):exsW [.mk k n t o [] p] q w=⟨w.left - 1,if w.deepest<q then q else w.deepest,w.long⟩:=by
 rw [exs_one _ _ _ h h2]
 show exsW [] (up q) (listW 0 _)=_
 rw [list_in _ (by omega)]
 rfl
theorem up_one:up 1=2:=wrap_in (by omega) (by omega)
theorem stat_walk(k p:Int)(t:List UInt8)(es:List Ex)(w:Wk)(h:es.length≤64):stW (.mk k t es [] [] p) 1 w=exsW es 2 w:=by
 show blsW [] (up 1) (labW [] (up 1) (exsW es (up 1) (listW es.length (listW 0 (listW 0 w)))))=_
 rw [up_one,list_in (n:=0) _ (by omega),list_in (n:=0) _ (by omega),list_in _ h]
 rfl
theorem calls_walk:∀(n:Nat) (w:Wk),2 * (n:Int)<w.left→w.left≤4000→2≤w.deepest→stsL (List.replicate n callZ) 1 w=⟨w.left - 2 * n,w.deepest,w.long⟩:=by
 intro n
 induction n with
 | zero=>intro w _ _ _;simp [stsL]
 | succ n ih =>
  intro w h1 h2 h3
  rw [List.replicate_succ]
  show(if (nodeW 1 w).left<0 then nodeW 1 w else stsL (List.replicate n callZ) 1 (stW callZ 1 (nodeW 1 w)))=_
  rw [node_in (by omega) h2,if_neg (by simp only;omega)]
  unfold callZ
  rw [stat_walk _ _ _ _ _ (by simp),one_walk _ _ _ _ _ _ _ (by simp only;omega) (by simp only;omega)]
  simp only
  have e:∀ z:Int,2≤z→(if (if z<1 then 1 else z)<2 then 2 else if z<1 then 1 else z)=z:=by intro z hz;repeat' split <;> omega
  rw [if_neg (show ¬ w.deepest<1 by omega),if_neg (show ¬ w.deepest<2 by omega)]
  show stsL (List.replicate n callZ) 1 _=_
  rw [ih ⟨w.left - 1 - 1,w.deepest,w.long⟩ (by simp only;omega) (by simp only;omega) h3]
  simp only [Wk.mk.injEq,and_true]
  omega
theorem many_walk(n d:Nat)(hn:n≤80)(hd:d≤80):walkW ⟨[77],[],⟨[],[],[]⟩,[],asgX d::List.replicate n callZ,0⟩=⟨4000 - (3+d+2 * n),d+2,decide (64<n+1)⟩:=by
 show stsL (asgX d::List.replicate n callZ) 1 ⟨4000,0,false || decide (64<(asgX d::List.replicate n callZ).length)⟩=_
 rw [List.length_cons,List.length_replicate,Bool.false_or]
 show(if (nodeW 1 _).left<0 then nodeW 1 _ else stsL (List.replicate n callZ) 1 (stW (asgX d) 1 (nodeW 1 _)))=_
 rw [node_in (by simp only;omega) (by simp only;omega),if_neg (by simp only;omega)]
 unfold asgX
 rw [stat_walk _ _ _ _ _ (by simp)]
 have e:∀(w:Wk),0<w.left→w.left≤4000→exsW [.mk 8 0 [120] [] [] 0,nest d] 2 w=exsW [nest d] 2 ⟨w.left - 1,if w.deepest<2 then 2 else w.deepest,w.long⟩:=by
  intro w h1 h2
  show(if (nodeW 2 w).left<0 then nodeW 2 w else exsW [nest d] 2 (exsW [] (up 2) (listW 0 (nodeW 2 w))))=_
  rw [list_in _ (by omega),node_in h1 h2,if_neg (by simp only;omega)]
  rfl
 rw [e _ (by simp only;omega) (by simp only;omega),nest_walk _ _ _ (by omega) (by omega) (by simp only;omega) (by simp only;omega),calls_walk _ _ (by simp only;omega) (by simp only;omega) (by simp only;(repeat' split) <;> omega)]
 simp only [Wk.mk.injEq,and_true]
 refine⟨by omega,?_⟩
 repeat' split
 all_goals omega
theorem many_lim(n d:Nat)(hn:n≤80)(hd:d≤80):limW ⟨[77],[],⟨[],[],[]⟩,[],asgX d::List.replicate n callZ,0⟩=if 64<n+1 then 3 else if 64<d+2 then 4 else 0:=by
 unfold limW
 rw [many_walk n d hn hd]
 simp only [decide_eq_true_eq]
 by_cases h1:64<n+1
 ·rw [if_pos (.inl h1),if_pos h1]
 ·rw [if_neg (by omega),if_neg h1]
  by_cases h2:64<d+2
  ·rw [if_pos (by omega),if_pos h2]
  ·rw [if_neg (by omega),if_neg h2]
end Tr
end Go.Proofs.YtlhmkfcbldghfaaGreatDoor
