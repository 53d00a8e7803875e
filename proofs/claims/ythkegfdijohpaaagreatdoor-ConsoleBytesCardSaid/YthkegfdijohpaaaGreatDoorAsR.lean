/- Words as lines,whether or not they are instructions,and lists of them;plain. No program in sight. Conditions: words lie in their bounds. -/
import Derived.Test.YthkegfdijohpaaaGreatDoorAsQ
namespace Go.Proofs.YthkegfdijohpaaaGreatDoor
set_option linter.all false
namespace As
def lx(d:Nat):UInt8:=if d<10 then UInt8.ofNat (48+d)else UInt8.ofNat (87+d)
def hexK:Nat→Int→List UInt8
 | 0,_=>[]
 | k+1,z=>hexK k (z / 16)++[lx (z % 16).toNat]
def hex8(z:Int):List UInt8:=hexK 8 z
def ux(c:UInt8):Option Nat:=if 48≤c.toNat∧c.toNat≤57 then some (c.toNat - 48)else if 97≤c.toNat∧c.toNat≤102 then some (c.toNat - 87)else none
def unhexF(a:Int):List UInt8→Option Int
 | []=>some a
 | c::t=>match ux c with|some d=>unhexF (a * 16+d) t|none=>none
def unhex(t:List UInt8):Option Int:=if t.length=8 then unhexF 0 t else none
theorem lx_facts:∀ d:Fin 16,ux (lx d.1)=some d.1∧lx d.1 ≠ 10∧lx d.1 ≠ 35:=by decide +kernel
theorem ux_lx:∀ c:Fin 256,∀ d:Fin 16,ux (UInt8.ofNat c.1)=some d.1→lx d.1=UInt8.ofNat c.1:=by decide +kernel
theorem ux_lt{c:UInt8}{d:Nat}(h:ux c=some d):d<16∧lx d=c:=by
 have hd:d<16:=by
  unfold ux at h
  split at h
  ·simp at h;omega
  ·split at h
   ·simp at h;omega
   ·cases h
 refine⟨hd,?_⟩
 have:=ux_lx ⟨c.toNat,c.toNat_lt⟩ ⟨d,hd⟩
 simp only [UInt8.ofNat_toNat]at this
 exact this h
theorem hexK_len(k:Nat):∀ z,(hexK k z).length=k:=by
 induction k with
 | zero=>intro z;rfl
 | succ k ih=>intro z;simp [hexK,ih]
theorem unhexF_app(l:List UInt8):∀(a:Int) (c:UInt8) (d:Nat),ux c=some d→unhexF a (l++[c])=(unhexF a l).map fun z=>z * 16+(d:Int):=by
 induction l with
 | nil=>intro a c d h;simp [unhexF,h]
 | cons x t ih =>
  intro a c d h
  simp only [List.cons_append,unhexF]
  cases ux x with
  | none=>rfl
  | some e=>exact ih _ c d h
theorem unhexF_hexK(k:Nat):∀(z:Int),0≤z→z<(16:Int) ^ k→unhexF 0 (hexK k z)=some z:=by
 induction k with
 | zero=>intro z h0 h1;simp at h1;simp [hexK,unhexF];omega
 | succ k ih =>
  intro z h0 h1
  have h2:z / 16<(16:Int) ^ k:=by
   rw [Int.pow_succ]at h1
   exact Int.ediv_lt_of_lt_mul (by decide) h1
  have hd:(z % 16).toNat<16:=by omega
  rw [hexK,unhexF_app _ _ _ _ (lx_facts ⟨(z % 16).toNat,hd⟩).1,ih _ (by omega) h2]
  simp;omega
theorem unhex_hex8(z:Int)(h0:0≤z)(h1:z<4294967296):unhex (hex8 z)=some z:=by
 unfold unhex hex8
 rw [if_pos (hexK_len 8 z)]
 exact unhexF_hexK 8 z h0 (by simpa using h1)
theorem unhexF_ge(l:List UInt8):∀(a z:Int),0≤a→unhexF a l=some z→0≤z:=by
 induction l with
 | nil=>intro a z ha h;simp [unhexF]at h;omega
 | cons c t ih =>
  intro a z ha h
  simp only [unhexF]at h
  cases hc:ux c with
  | none=>rw [hc]at h;cases h
  | some d=>rw [hc]at h;exact ih _ _ (by omega) h
theorem hexK_unhexF(k:Nat):∀(l:List UInt8) (z:Int),l.length=k→unhexF 0 l=some z→hexK k z=l∧0≤z∧z<(16:Int) ^ k:=by
 induction k with
 | zero =>
  intro l z hl h
  have:l=[]:=List.eq_nil_of_length_eq_zero hl
  subst this
  simp [unhexF]at h
  subst h
  simp [hexK]
 | succ k ih =>
  intro l z hl h
  have hne:l ≠ []:=by rintro rfl;simp at hl
  obtain⟨t,c,rfl⟩:∃ t c,l=t++[c]:=⟨l.dropLast,l.getLast hne,(List.dropLast_concat_getLast hne).symm⟩
  cases hc:ux c with
  | none =>
   exfalso
   have:∀(t:List UInt8) (a:Int),unhexF a (t++[c])=none:=by
    intro t
    induction t with
    | nil=>intro a;simp [unhexF,hc]
    | cons x t ih =>
     intro a
     simp only [List.cons_append,unhexF]
     cases ux x with
     | none=>rfl
     | some e=>exact ih _
   rw [this]at h;cases h
  | some d =>
   rw [unhexF_app _ _ _ _ hc]at h
   cases ht:unhexF 0 t with
   | none=>rw [ht]at h;cases h
   | some y =>
    rw [ht]at h
    simp only [Option.map_some,Option.some.injEq]at h
    obtain⟨hd,hlx⟩:=ux_lt hc
    obtain⟨i1,i2,i3⟩:=ih t y (by simp at hl;omega) ht
    subst h
    have e1:(y * 16+(d:Int)) / 16=y:=by omega
    have e2:((y * 16+(d:Int)) % 16).toNat=d:=by omega
    refine⟨?_,by omega,?_⟩
    ·rw [hexK,e1,e2,i1,hlx]
    ·rw [Int.pow_succ];omega
theorem hex8_unhex{t:List UInt8}{z:Int}(h:unhex t=some z):hex8 z=t∧0≤z∧z<4294967296:=by
 unfold unhex at h
 split at h
 ·rename_i hl
  have:=hexK_unhexF 8 t z hl h
  exact⟨this.1,this.2.1,by simpa using this.2.2⟩
 ·cases h
theorem hexK_bytes(k:Nat):∀ z,∀ c∈hexK k z,c ≠ 10:=by
 induction k with
 | zero=>intro z c h;cases h
 | succ k ih =>
  intro z c h
  rcases List.mem_append.1 h with h|h
  ·exact ih _ c h
  ·simp only [List.mem_singleton]at h
   subst h
   exact(lx_facts ⟨(z % 16).toNat,by omega⟩).2.1
/-! a word's line -/
def lineX(z:Int):List UInt8:=(lineF z).getD (35::hex8 z)
theorem tab_head:∀ e∈tab,e.1.head? ≠ some 35∧e.1 ≠ []∧(10:UInt8) ∉ e.1:=by decide +kernel
theorem line_head{x:Ins}(h:Good x):(lineI x).head? ≠ some 35:=by
 obtain⟨h1,h2,_⟩:=tab_head _ (name_in h)
 unfold lineI
 simp only at h1 h2
 cases hn:name x with
 | nil=>exact absurd hn h2
 | cons c t=>rw [hn]at h1;simpa using h1
theorem line_bytes{x:Ins}(h:Good x):(10:UInt8) ∉ lineI x:=by
 obtain⟨_,_,h3⟩:=tab_head _ (name_in h)
 have hi:∀ n,(10:UInt8) ∉ Lib.itoa n:=fun n=>itoa_not ⟨by decide,by decide⟩
 have hr:∀ n,(10:UInt8) ∉ reg n:=fun n=>reg_not ⟨by decide,by decide⟩ (by decide)
 unfold lineI
 simp only [List.mem_append,List.mem_cons,not_or]
 refine⟨h3,by decide,?_⟩
 unfold rest
 split
 ·split
  ·exact hi _
  ·exact hr _
 ·split
  ·simp [hr]
  ·simp [hr,hi]
theorem lineF_of{z:Int}{s:List UInt8}(h:lineF z=some s):∃ x,Good x∧enc x=z∧lineI x=s:=by
 unfold lineF at h
 cases hd:dec z with
 | none=>rw [hd]at h;cases h
 | some x =>
  rw [hd]at h
  simp only [Option.map_some,Option.some.injEq]at h
  obtain⟨hg,he,_⟩:=dec_some hd
  exact⟨x,hg,he,h⟩
theorem lineX_bytes(z:Int):(10:UInt8) ∉ lineX z:=by
 unfold lineX
 cases h:lineF z with
 | none =>
  simp only [Option.getD_none,List.mem_cons,not_or]
  exact⟨by decide,fun hm=>hexK_bytes 8 z _ hm rfl⟩
 | some s =>
  obtain⟨x,hg,_,rfl⟩:=lineF_of h
  exact line_bytes hg
def eitherX(s:List UInt8):Int × Int:=
 if s.head?=some 35 then match unhex s.tail with|some z=>if lineF z=none then(z,0)else(0,60)|none=>(0,60)
 else wordF s
theorem word_hash{s:List UInt8}(h:s.head?=some 35):wordF s=(0,60):=by
 refine word_no fun z hz=>?_
 obtain⟨x,hg,_,rfl⟩:=lineF_of hz
 exact line_head hg h
theorem either_line{z:Int}(h0:0≤z)(h1:z<4294967296):eitherX (lineX z)=(z,0):=by
 unfold lineX
 cases h:lineF z with
 | none =>
  unfold eitherX
  simp [unhex_hex8 z h0 h1,h]
 | some s =>
  have hw:=word_line h
  obtain⟨x,hg,_,rfl⟩:=lineF_of h
  unfold eitherX
  simp only [Option.getD_some]
  rw [if_neg (line_head hg),hw]
theorem line_either{s:List UInt8}{z:Int}(h:eitherX s=(z,0)):lineX z=s∧0≤z∧z<4294967296:=by
 unfold eitherX at h
 split at h
 ·rename_i hh
  cases hu:unhex s.tail with
  | none=>rw [hu]at h;simp at h
  | some y =>
   rw [hu]at h
   simp only at h
   split at h
   ·rename_i hl
    simp only [Prod.mk.injEq,and_true]at h
    subst h
    obtain⟨e1,e2,e3⟩:=hex8_unhex hu
    refine⟨?_,e2,e3⟩
    unfold lineX
    rw [hl,Option.getD_none,e1]
    cases s with
    | nil=>simp at hh
    | cons c t=>simp only [List.head?_cons,Option.some.injEq]at hh;subst hh;rfl
   ·simp at h
 ·obtain⟨e1,e2⟩:=line_word h
  unfold lineX
  rw [e1]
  exact⟨rfl,e2⟩
theorem done_two(s:List UInt8)(o:Option Ins):(∃ z,done s o=(z,0))∨done s o=(0,60):=by
 cases o with
 | none=>exact .inr rfl
 | some x =>
  simp only [done]
  split
  ·exact .inl ⟨_,rfl⟩
  ·exact .inr rfl
theorem either_two(s:List UInt8):(∃ z,eitherX s=(z,0))∨eitherX s=(0,60):=by
 unfold eitherX
 split
 ·cases unhex s.tail with
  | none=>exact .inr rfl
  | some y =>
   simp only
   split
   ·exact .inl ⟨_,rfl⟩
   ·exact .inr rfl
 ·exact done_two _ _
/-! texts of lines -/
def lns:List UInt8→List (List UInt8) × List UInt8
 | []=>([],[])
 | c::t=>if c=10 then([]::(lns t).1,(lns t).2)else match (lns t).1 with|[]=>([],c::(lns t).2)|l::ls=>((c::l)::ls,(lns t).2)
theorem lns_none(s:List UInt8)(h:(10:UInt8) ∉ s):lns s=([],s):=by
 induction s with
 | nil=>rfl
 | cons c t ih =>
  have hc:c ≠ 10:=fun e=>h (by rw [e];exact List.mem_cons_self ..)
  have:=ih fun hm=>h (List.mem_cons_of_mem _ hm)
  simp [lns,this,hc]
theorem lns_at(a t:List UInt8)(h:(10:UInt8) ∉ a):lns (a++10::t)=(a::(lns t).1,(lns t).2):=by
 induction a with
 | nil=>simp [lns]
 | cons c r ih =>
  have hc:c ≠ 10:=fun e=>h (by rw [e];exact List.mem_cons_self ..)
  have:=ih fun hm=>h (List.mem_cons_of_mem _ hm)
  simp [lns,this,hc]
def wl:List (List UInt8)→List Int × Bool
 | []=>([],true)
 | l::t=>if (eitherX l).2=0 then((eitherX l).1::(wl t).1,(wl t).2)else([],false)
def wordsF(s:List UInt8):List Int × Int × Int:=
 if 65536<s.count 10 then([],0,3)
 else if (wl (lns s).1).2=true∧(lns s).2=[]then((wl (lns s).1).1,0,0)else([],((wl (lns s).1).1.length:Int),60)
def linesF(l:List Int):List UInt8:=l.flatMap fun z=>lineX z++[10]
theorem lns_lines(l:List Int):lns (linesF l)=(l.map lineX,[]):=by
 induction l with
 | nil=>rfl
 | cons z t ih =>
  have:linesF (z::t)=lineX z++10::linesF t:=by simp [linesF]
  rw [this,lns_at _ _ (lineX_bytes z),ih]
  rfl
theorem wl_lines(l:List Int)(h:∀ z∈l,0≤z∧z<4294967296):wl (l.map lineX)=(l,true):=by
 induction l with
 | nil=>rfl
 | cons z t ih =>
  have hz:=h z (List.mem_cons_self ..)
  simp only [List.map_cons,wl,either_line hz.1 hz.2,if_true,ih fun x hx=>h x (List.mem_cons_of_mem _ hx)]
theorem lines_count(l:List Int):(linesF l).count 10=l.length:=by
 induction l with
 | nil=>rfl
 | cons z t ih =>
  have:linesF (z::t)=lineX z++10::linesF t:=by simp [linesF]
  rw [this,List.count_append,List.count_cons_self,ih,List.count_eq_zero.2 (lineX_bytes z),List.length_cons]
  omega
theorem words_lines(l:List Int)(h:∀ z∈l,0≤z∧z<4294967296)(hl:l.length≤65536):wordsF (linesF l)=(l,0,0):=by
 unfold wordsF
 rw [lines_count,if_neg (by omega),lns_lines]
 simp only [wl_lines l h]
 simp
theorem lns_join(s:List UInt8):((lns s).1.flatMap fun l=>l++[10])++(lns s).2=s:=by
 induction s with
 | nil=>rfl
 | cons c t ih =>
  simp only [lns]
  split
  ·rename_i hc;subst hc
   simpa using ih
  ·cases hl:(lns t).1 with
   | nil=>rw [hl]at ih;simpa using ih
   | cons l ls=>rw [hl]at ih;simpa using ih
theorem wl_join(ls:List (List UInt8))(h:(wl ls).2=true):linesF (wl ls).1=ls.flatMap fun l=>l++[10]:=by
 induction ls with
 | nil=>rfl
 | cons l t ih =>
  simp only [wl]at h ⊢
  split
  ·rename_i he
   rw [if_pos he]at h
   obtain⟨e1,_⟩:=line_either (s:=l) (z:=(eitherX l).1) (by rw [← he])
   simp only [linesF,List.flatMap_cons]at *
   rw [e1,ih h]
  ·rename_i he
   rw [if_neg he]at h
   cases h
theorem lines_words{s:List UInt8}(h:(wordsF s).2.2=0):linesF (wordsF s).1=s:=by
 unfold wordsF at h ⊢
 split at h
 ·simp at h
 ·rename_i hc
  rw [if_neg hc]
  split at h
  ·rename_i hg
   rw [if_pos hg]
   have:=lns_join s
   rw [hg.2,List.append_nil]at this
   rw [wl_join _ hg.1,this]
  ·simp at h
theorem words_bad{s:List UInt8}(h:(wordsF s).2.2 ≠ 0):(wordsF s).1=[]:=by
 unfold wordsF at h ⊢
 split at h
 ·rename_i hc;rw [if_pos hc]
 ·rename_i hc
  rw [if_neg hc]
  split at h
  ·simp at h
  ·rename_i hg;rw [if_neg hg]
theorem wl_bound(ls:List (List UInt8)):∀ z∈(wl ls).1,0≤z∧z<4294967296:=by
 induction ls with
 | nil=>intro z h;cases h
 | cons l t ih =>
  intro z h
  simp only [wl]at h
  split at h
  ·rename_i he
   rcases List.mem_cons.1 h with h|h
   ·subst h
    exact(line_either (s:=l) (z:=(eitherX l).1) (by rw [← he])).2
   ·exact ih z h
  ·cases h
theorem words_bound(s:List UInt8):∀ z∈(wordsF s).1,0≤z∧z<4294967296:=by
 unfold wordsF
 split
 ·intro z h;cases h
 ·split
  ·exact wl_bound _
  ·intro z h;cases h
theorem wl_snoc(a:List (List UInt8))(b:List (List UInt8))(h:(wl a).2=true):wl (a++b)=((wl a).1++(wl b).1,(wl b).2):=by
 induction a with
 | nil=>rfl
 | cons l t ih =>
  simp only [wl,List.cons_append]at h ⊢
  split
  ·rename_i he
   rw [if_pos he]at h
   rw [ih h]
   rfl
  ·rename_i he
   rw [if_neg he]at h
   cases h
end As
end Go.Proofs.YthkegfdijohpaaaGreatDoor
