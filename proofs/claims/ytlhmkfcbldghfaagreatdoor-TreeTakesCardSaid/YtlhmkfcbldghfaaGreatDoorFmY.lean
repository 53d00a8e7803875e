/- The laws of FmB as a walk meets them;the types of trees;what tree's parser keeps. Conditions: lengths lie in their bounds. -/
import Derived.Test.YtlhmkfcbldghfaaGreatDoorFmX
import Derived.Test.YtlhmkfcbldghfaaGreatDoorTtY
namespace Go.Proofs.YtlhmkfcbldghfaaGreatDoor
set_option linter.all false
open Go.RowKit
namespace Fr
open Da Tr
section
variable {P:Program} {ops:Array Oper} {rest:List Oper} {a:Act} {Q:Exit→Act→World→Prop} {dst:Option Tmp} {ty:TypeId} {pos:String} {after:Array Edge}
variable {w W:World} {g:Option Nat} {Kp:World→Prop} {R:List RI} {Ds:List (Value × D)}
theorem is_alloc{T:TypeId}(h:wpList P ops Q ({ dst:=dst,op:=.alloc T,type:=ty,pos:=pos,after:=after,guard:=none }::rest) a W):wpList P ops Q ({ dst:=dst,op:=.alloc T,type:=ty,pos:=pos,after:=after,guard:=none }::rest) a W:=h
theorem is_store{T:TypeId}{x y:Operand}(h:wpList P ops Q ({ dst:=dst,op:=.store T x y,type:=ty,pos:=pos,after:=after,guard:=none }::rest) a W):wpList P ops Q ({ dst:=dst,op:=.store T x y,type:=ty,pos:=pos,after:=after,guard:=none }::rest) a W:=h
theorem is_load{T:TypeId}{x:Operand}(h:wpList P ops Q ({ dst:=dst,op:=.load T x,type:=ty,pos:=pos,after:=after,guard:=none }::rest) a W):wpList P ops Q ({ dst:=dst,op:=.load T x,type:=ty,pos:=pos,after:=after,guard:=none }::rest) a W:=h
theorem is_box{T:TypeId}{x:Operand}(h:wpList P ops Q ({ dst:=dst,op:=.box T x,type:=ty,pos:=pos,after:=after,guard:=none }::rest) a W):wpList P ops Q ({ dst:=dst,op:=.box T x,type:=ty,pos:=pos,after:=after,guard:=none }::rest) a W:=h
theorem is_lit{T:TypeId}{n:Nat}{ps:Array (Nat × Operand)}(h:wpList P ops Q ({ dst:=dst,op:=.buildSlice T n ps,type:=ty,pos:=pos,after:=after,guard:=none }::rest) a W):wpList P ops Q ({ dst:=dst,op:=.buildSlice T n ps,type:=ty,pos:=pos,after:=after,guard:=none }::rest) a W:=h
theorem is_append{ag:Array Operand}{ts:Array TypeId}(h:wpList P ops Q ({ dst:=dst,op:=.call { callee:=.builtin .append,args:=ag,argTypes:=ts },type:=ty,pos:=pos,after:=after,guard:=none }::rest) a W):wpList P ops Q ({ dst:=dst,op:=.call { callee:=.builtin .append,args:=ag,argTypes:=ts },type:=ty,pos:=pos,after:=after,guard:=none }::rest) a W:=h
theorem wl_alloc(h:Fm w g Kp W R Ds){T:TypeId}{z:List Value}{bytes:Nat}(hT:TyIs P T z bytes)
  (hK:∀(b:Nat) (W':World),Fm w g Kp W' (.blk b z::R) Ds→wpList P ops Q rest (a.put dst (.pointer (some ⟨b,0,none⟩))) W'):wpList P ops Q ({ dst:=dst,op:=.alloc T,type:=ty,pos:=pos,after:=after,guard:=none }::rest) a W:=
 wpList_plain rfl fun K hk=>ow_alloc h hT rfl fun b W' h'=>hk _ _ (hK b W' h')
theorem wl_box(h:Fm w g Kp W R Ds){T:TypeId}{x:Operand}{cs:List Value}{xv:Value}(hxv:evalQ a x=some xv)(hx:xv.cells=cs.toArray)
  (hK:∀(b:Nat) (W':World),Fm w g Kp W' (.blk b cs::R) Ds→wpList P ops Q rest (a.put dst (.pointer (some ⟨b,0,none⟩))) W'):wpList P ops Q ({ dst:=dst,op:=.box T x,type:=ty,pos:=pos,after:=after,guard:=none }::rest) a W:=
 wpList_plain rfl fun K hk=>ow_box h rfl hxv hx fun b W' h'=>hk _ _ (hK b W' h')
theorem wl_store(k:Nat)(h:Fm w g Kp W R Ds){T:TypeId}{z:List Value}{bytes:Nat}(hT:TyIs P T z bytes){x y:Operand}{b off:Nat}{cs vs:List Value}(hx:a.eval x=.pointer (some ⟨b,off,none⟩))(hk:R[k]?=some (.blk b cs))
  {yv:Value} (hyv:evalQ a y=some yv) (hy:yv.cells=vs.toArray) (hz:vs.length=z.length) (hl:off+vs.length≤cs.length) (h1:∀ v∈vs,v.oneCell'=true)
  (hK:∀ W':World,Fm w g Kp W' (R.set k (.blk b (setL cs off vs))) Ds→wpList P ops Q rest (a.put dst undef) W'):wpList P ops Q ({ dst:=dst,op:=.store T x y,type:=ty,pos:=pos,after:=after,guard:=none }::rest) a W:=
 wpList_plain rfl fun K hK'=>ow_store k h hT rfl hx hk hyv hy hz hl h1 fun W' h'=>hK' _ _ (hK W' h')
theorem wl_store1(k:Nat)(h:Fm w g Kp W R Ds){T:TypeId}{z:List Value}{bytes:Nat}(hT:TyIs P T z bytes){x y:Operand}{b off:Nat}{cs:List Value}(hx:a.eval x=.pointer (some ⟨b,off,none⟩))(hk:R[k]?=some (.blk b cs))
  {yv:Value} (hyv:evalQ a y=some yv) (hz:1=z.length) (hl:Nat.ble (off+1) cs.length=true) (h1:yv.oneCell'=true)
  (hK:∀ W':World,Fm w g Kp W' (R.set k (.blk b (setL cs off [yv]))) Ds→wpList P ops Q rest (a.put dst undef) W'):wpList P ops Q ({ dst:=dst,op:=.store T x y,type:=ty,pos:=pos,after:=after,guard:=none }::rest) a W:=
 wl_store k h hT hx hk hyv (cells_one h1) hz (Nat.le_of_ble_eq_true hl) (fun v hv=>by simp at hv;subst hv;exact h1) hK
theorem wl_load(k:Nat)(h:Fm w g Kp W R Ds){T:TypeId}{x:Operand}{b:Nat}{cs:List Value}(hx:a.eval x=.pointer (some ⟨b,0,none⟩))(hk:R[k]?=some (.blk b cs)){d:TypeDesc}(hu:P.underlying T=some d)(hd:d.isRow=true){z:List Value}{bytes:Nat}(hT:TyIs P T z bytes)(hz:cs.length=z.length)
  (hK:wpList P ops Q rest (a.put dst (.agg cs.toArray)) W):wpList P ops Q ({ dst:=dst,op:=.load T x,type:=ty,pos:=pos,after:=after,guard:=none }::rest) a W:=
 wpList_plain rfl fun K hK'=>ow_load k h rfl hx hk hu hd hT hz (hK' _ _ hK)
theorem wl_load1(k:Nat)(h:Fm w g Kp W R Ds){T:TypeId}{x:Operand}{b off:Nat}{cs:List Value}(hx:a.eval x=.pointer (some ⟨b,off,none⟩))(hk:R[k]?=some (.blk b cs)){d:TypeDesc}(hu:P.underlying T=some d)(hd:d.isRow=false){v:Value}(hv:cs[off]?=some v)
  (hK:wpList P ops Q rest (a.put dst v) W):wpList P ops Q ({ dst:=dst,op:=.load T x,type:=ty,pos:=pos,after:=after,guard:=none }::rest) a W:=
 wpList_plain rfl fun K hK'=>ow_load1 k h rfl hx hk hu hd hv (hK' _ _ hK)
theorem wl_lit1(h:Fm w g Kp W R Ds){T e:TypeId}{z:List Value}{bytes:Nat}(hu:P.underlying T=some (.slice e))(hT:TyIs P e z bytes)(hz:z.length≤1000)(hz0:0<z.length){x:Operand}{cs:List Value}{xv:Value}(hxv:evalQ a x=some xv)(hx:xv.cells=cs.toArray)(hl:cs.length=z.length)(row:List D)(hr:Row W (Off w.heap.size R) cs row)
  (hK:∀(b:Nat) (W':World),Fm w g Kp W' R ((.slice (some ⟨b,0,none⟩) 1 1,.list z.length [row])::Ds)→wpList P ops Q rest (a.put dst (.slice (some ⟨b,0,none⟩) 1 1)) W'):wpList P ops Q ({ dst:=dst,op:=.buildSlice T 1 #[(0,x)],type:=ty,pos:=pos,after:=after,guard:=none }::rest) a W:=
 wpList_plain rfl fun K hk=>ow_lit1 h hu hT hz hz0 rfl hxv hx hl hr fun b W' h'=>hk _ _ (hK b W' h')
theorem wl_append(k i:Nat)(h:Fm w g Kp W R Ds){t e:TypeId}{z:List Value}{bytes:Nat}(hu:P.underlying t=some (.slice e))(hT:TyIs P e z bytes)(hz0:0<z.length)(hb0:0<bytes){s x:Operand}
  {v u:Value} {size:Nat} {rows rows2:List (List D)} (hs:a.eval s=v) (hk:R[k]?=some (.row v e size rows)) (hsz:z.length=size) (hx:a.eval x=u) (hd:Ds[i]?=some (u,.list size rows2)) (hb:(rows.length+rows2.length) * bytes≤140737488355328)
  (hK:∀(v':Value) (W':World),Fm w g Kp W' (R.set k (.row v' e size (rows++rows2))) Ds→wpList P ops Q rest (a.put dst v') W'):wpList P ops Q ({ dst:=dst,op:=.call { callee:=.builtin .append,args:=#[s,x],argTypes:=#[t,t] },type:=ty,pos:=pos,after:=after,guard:=none }::rest) a W:=
 wpList_plain rfl fun K hk'=>ow_append k i h hu hT hz0 hb0 rfl hs hk hsz hx hd hb fun v' W' h'=>hk' _ _ (hK v' W' h')
theorem fm_results{fn:Func}{p:Tmp}{T:TypeId}(k:Nat)(h:Fm w g Kp W R Ds)(hf:fn.results=#[.cell p T]){tmps:Array Value}{b:Nat}{cs:List Value}(hp:tmps.getD p undef=.pointer (some ⟨b,0,none⟩))(hk:R[k]?=some (.blk b cs)){d:TypeDesc}(hu:P.underlying T=some d)(hd:d.isRow=true){z:List Value}{bytes:Nat}(hT:TyIs P T z bytes)(hz:cs.length=z.length) :
  (results fn tmps).run P W=.ok (.agg cs.toArray) W:=by
 obtain⟨i,v,hi,_,_,hs,_⟩:=hT.info
 obtain⟨t,hb⟩:=h.at k hk
 exact results_cell_row hf tmps W b t cs.toArray (0,0) d hp hb hu (by cases d <;> simp_all) (by rw [hi];simp [hs,hz])
end
theorem bind_ok{α β:Type}(x:α)(l:List Tok)(f:α→List Tok→Tr.R β):(Tr.R.ok x l).bind f=f x l:=rfl
theorem bind_no{α β:Type}(p:Int)(f:α→List Tok→Tr.R β):(Tr.R.no p).bind f=.no p:=rfl
theorem bB:((false=true)=False)∧(∀{α β:Type} (x:α) (l:List Tok) (f:α→List Tok→Tr.R β),(Tr.R.ok x l).bind f=f x l)∧(∀{α β:Type} (p:Int) (f:α→List Tok→Tr.R β),(Tr.R.no p).bind f=.no p):=⟨zF,fun _ _ _=>rfl,fun _ _=>rfl⟩
/-! what tree's parser keeps -/
abbrev PF(w:World)(B bp:Nat)(en:Int)(l:List Tok)(W:World)(R:List RI)(Ds:List (Value × D)):Prop:=Fm w (some bp) (fun X=>PS X B bp en l) W R Ds
section
variable {w W W':World} {B bp:Nat} {en:Int} {l l':List Tok} {R:List RI} {Ds:List (Value × D)}
theorem pf_start(hp:PS w B bp en l):PF w B bp en l w [] []:=
 fm_start w (some bp) _ (fun k e=>by simp at e;subst e;exact Nat.lt_of_lt_of_le hp.ptr hp.size) (fun _ _ hs hw hk=>hk.keep hs fun b hlt=>hw b (Nat.lt_of_lt_of_le hlt hp.size)) hp
theorem PF.ps(h:PF w B bp en l W R Ds):PS W B bp en l:=h.kp
theorem PF.call(hB:B≤w.heap.size)(h:PF w B bp en l W R Ds)(hr:Rd W bp W')(hp:PS W' B bp en l'):PF w B bp en l' W' R Ds:=
 Fm.call h hr (fun _ _ hs hw hk=>hk.keep hs fun b hlt=>hw b (Nat.lt_of_lt_of_le hlt hB)) hp
theorem PF.rd(h:PF w B bp en l W R Ds):Rd w bp W:=h.gr
theorem con_add{α:Type}{F:Tr.R α}{a:α}{N c:Nat}(hc:Con l F)(hx:F=.ok a l')(hl:l.length+c≤N):l'.length+(c+1)≤N:=by
 obtain⟨x,t,e⟩:=hc a l' hx
 rw [e]at hl;simp at hl;omega
theorem suf_add{α:Type}{F:Tr.R α}{a:α}{N c:Nat}(hc:Suf l F)(hx:F=.ok a l')(hl:l.length+c≤N):l'.length+c≤N:=by
 obtain⟨t,e⟩:=hc a l' hx
 rw [e]at hl;simp at hl;omega
theorem tail_add{tx:List UInt8}{N c:Nat}(hs:isS tx l=true)(hl:l.length+c≤N):l.tail.length+(c+1)≤N:=by
 have:=tail_lt (tl_ne hs);omega
end
/-! the small functions,as a walk parts them -/
theorem more_below(w:World)(g:Came):Below w.heap.size w (more w g):=below_more (Below.refl _ _) (Nat.le_refl _) g
theorem is_split(w:World)(B bp:Nat)(en:Int)(l:List Tok)(tx:List UInt8)(hp:PS w B bp en l) :
  Calls Tryz.prog 102 #[.pointer (some ⟨bp,0,none⟩),.string ⟨tx.toArray⟩] w fun e w'=>Below w.heap.size w w'∧((isS tx l=true∧e=.returned (.bool true))∨(isS tx l=false∧e=.returned (.bool false))):=
 (is_any w B bp en l tx hp).mono fun e w' ⟨he,g,hw⟩=>⟨by rw [hw];exact more_below w g,by rw [he];cases isS tx l <;> simp⟩
theorem took_split(w:World)(B bp:Nat)(en:Int)(l:List Tok)(tx:List UInt8)(hp:PS w B bp en l) :
  Calls Tryz.prog 100 #[.pointer (some ⟨bp,0,none⟩),.string ⟨tx.toArray⟩] w fun e w'=>Rd w bp w'∧((isS tx l=true∧e=.returned (.bool true)∧PS w' B bp en l.tail)∨(isS tx l=false∧e=.returned (.bool false)∧PS w' B bp en l)):=
 (took_any w B bp en l tx hp).mono fun e w' ⟨he,hr,hq⟩=>⟨hr,by
  cases hb:isS tx l with
  | true=>rw [took_ok hb]at hq;exact .inl ⟨rfl,by rw [he,hb],hq⟩
  | false=>rw [took_no hb]at hq;exact .inr ⟨rfl,by rw [he,hb],hq⟩⟩
theorem peek_split(w:World)(B bp:Nat)(en:Int)(l:List Tok)(hp:PS w B bp en l) :
  Calls Tryz.prog 97 #[.pointer (some ⟨bp,0,none⟩)] w fun e w'=>Below w.heap.size w w'∧∃(kd:Int) (t2:List UInt8) (n q:Int),peek en l=(kd,t2,n,q)∧posOf en l=q∧e=.returned (.agg #[.int .i64 kd,.string ⟨t2.toArray⟩,.int .i64 n,.int .i64 q])∧((isN l=true∧kd=1)∨(isN l=false∧(kd == 1)=false∧(kd != 1)=true)):=
 (peek_any w B bp en l hp).mono fun e w' ⟨he,g,hw⟩=>by
  refine⟨by rw [hw];exact more_below w g,?_⟩
  rw [isN_peek en,posOf_peek]
  obtain⟨t,ht⟩:∃ t,peek en l=t:=⟨_,rfl⟩
  rw [ht]at he ⊢
  obtain⟨kd,t2,n,q⟩:=t
  refine⟨kd,t2,n,q,rfl,rfl,he,?_⟩
  show((kd == 1)=true∧_)∨((kd == 1)=false∧_)
  cases hb:kd == 1 with
  | true=>exact .inl ⟨rfl,by simpa using hb⟩
  | false=>exact .inr ⟨rfl,rfl,by rw [bne,hb];rfl⟩
theorem fld_tok0(a b c d:Value)(w:World):(Instr.field 40 (.agg #[a,b,c,d]) 0).run Tryz.prog w=.ok a w:=by kernel_rfl
theorem fld_tok1(a b c d:Value)(w:World):(Instr.field 40 (.agg #[a,b,c,d]) 1).run Tryz.prog w=.ok b w:=by kernel_rfl
theorem fld_tok3(a b c d:Value)(w:World):(Instr.field 40 (.agg #[a,b,c,d]) 3).run Tryz.prog w=.ok d w:=by kernel_rfl
/-! the types of trees -/
abbrev zTok:List Value:=[.int .i64 0,.string ⟨#[]⟩,.int .i64 0,.int .i64 0]
abbrev zE:List Value:=[.int .i64 0,.int .i64 0,.string ⟨#[]⟩,.string ⟨#[]⟩,.slice none 0 0,.int .i64 0]
abbrev zT:List Value:=[.int .i64 0,.string ⟨#[]⟩,.string ⟨#[]⟩,.slice none 0 0,.slice none 0 0,.slice none 0 0,.slice none 0 0,.slice none 0 0,.slice none 0 0,.int .i64 0]
abbrev zF:List Value:=[.string ⟨#[]⟩,.bool false,.int .i64 0,.string ⟨#[]⟩,.string ⟨#[]⟩,.slice none 0 0,.slice none 0 0,.slice none 0 0,.slice none 0 0,.slice none 0 0,.slice none 0 0,.int .i64 0,.int .i64 0]
abbrev zC:List Value:=[.string ⟨#[]⟩,.bool false,.int .i64 0,.int .i64 0,.string ⟨#[]⟩,.string ⟨#[]⟩,.slice none 0 0,.int .i64 0,.int .i64 0]
abbrev zS:List Value:=[.int .i64 0,.string ⟨#[]⟩,.slice none 0 0,.slice none 0 0,.slice none 0 0,.int .i64 0]
abbrev zI:List Value:=[.string ⟨#[]⟩,.string ⟨#[]⟩,.int .i64 0]
abbrev zP:List Value:=[.string ⟨#[]⟩,.bool false,.slice none 0 0,.slice none 0 0,.slice none 0 0,.slice none 0 0,.slice none 0 0,.slice none 0 0,.slice none 0 0,.int .i64 0]
abbrev zM:List Value:=[.string ⟨#[]⟩,.slice none 0 0,.slice none 0 0,.slice none 0 0,.slice none 0 0,.slice none 0 0,.slice none 0 0,.int .i64 0]
theorem tyTok:TyIs Tryz.prog 40 zTok 40:=tyIs_of (by kernel_rfl)
theorem tyE:TyIs Tryz.prog 53 zE 80:=tyIs_of (by kernel_rfl)
theorem tyT:TyIs Tryz.prog 123 zT 192:=tyIs_of (by kernel_rfl)
theorem tyF:TyIs Tryz.prog 129 zF 224:=tyIs_of (by kernel_rfl)
theorem tyPa:TyIs Tryz.prog 128 zF 224:=tyIs_of (by kernel_rfl)
theorem tyTy:TyIs Tryz.prog 125 zF 224:=tyIs_of (by kernel_rfl)
theorem tyV:TyIs Tryz.prog 126 zF 224:=tyIs_of (by kernel_rfl)
theorem tyC:TyIs Tryz.prog 120 zC 112:=tyIs_of (by kernel_rfl)
theorem tyS:TyIs Tryz.prog 51 zS 104:=tyIs_of (by kernel_rfl)
theorem tyI:TyIs Tryz.prog 63 zI 40:=tyIs_of (by kernel_rfl)
theorem tyPr:TyIs Tryz.prog 67 zP 200:=tyIs_of (by kernel_rfl)
theorem tyM:TyIs Tryz.prog 30 zM 168:=tyIs_of (by kernel_rfl)
theorem tyInt:TyIs Tryz.prog 3 [.int .i64 0] 8:=tyIs_of (by kernel_rfl)
theorem tyStr:TyIs Tryz.prog 9 [.string ⟨#[]⟩] 16:=tyIs_of (by kernel_rfl)
theorem tyBool:TyIs Tryz.prog 4 [.bool false] 1:=tyIs_of (by kernel_rfl)
theorem tySE:TyIs Tryz.prog 47 [.slice none 0 0] 24:=tyIs_of (by kernel_rfl)
theorem tyST:TyIs Tryz.prog 65 [.slice none 0 0] 24:=tyIs_of (by kernel_rfl)
theorem tySF:TyIs Tryz.prog 121 [.slice none 0 0] 24:=tyIs_of (by kernel_rfl)
theorem tySPa:TyIs Tryz.prog 64 [.slice none 0 0] 24:=tyIs_of (by kernel_rfl)
theorem tySS:TyIs Tryz.prog 28 [.slice none 0 0] 24:=tyIs_of (by kernel_rfl)
theorem tySSS:TyIs Tryz.prog 49 [.slice none 0 0] 24:=tyIs_of (by kernel_rfl)
theorem tySSE:TyIs Tryz.prog 48 [.slice none 0 0] 24:=tyIs_of (by kernel_rfl)
theorem tySC:TyIs Tryz.prog 24 [.slice none 0 0] 24:=tyIs_of (by kernel_rfl)
theorem tySTy:TyIs Tryz.prog 25 [.slice none 0 0] 24:=tyIs_of (by kernel_rfl)
theorem tySV:TyIs Tryz.prog 26 [.slice none 0 0] 24:=tyIs_of (by kernel_rfl)
theorem tySI:TyIs Tryz.prog 23 [.slice none 0 0] 24:=tyIs_of (by kernel_rfl)
theorem tySPr:TyIs Tryz.prog 27 [.slice none 0 0] 24:=tyIs_of (by kernel_rfl)
def VRow(lo:Nat)(w:World)(v:Value)(ds:List D):Prop:=∃ cs:List Value,v=.agg cs.toArray∧Row w (fun b=>lo≤b) cs ds
theorem row_inv{w:World}{P:Nat→Prop}{cs:List Value}{d:D}{ds:List D}(h:Row w P cs (d::ds)):∃ c cs',cs=c::cs'∧Is w P c d∧Row w P cs' ds:=by
 obtain⟨hl,hr⟩:=h
 cases cs with
 | nil=>simp at hl
 | cons c cs =>
  obtain⟨x,hx,hi⟩:=hr 0 d rfl
  simp at hx;subst hx
  refine⟨c,cs,rfl,hi,by simpa using hl,fun j e he=>?_⟩
  obtain⟨y,hy,hj⟩:=hr (j+1) e (by simpa using he)
  exact⟨y,by simpa using hy,hj⟩
theorem row_inv0{w:World}{P:Nat→Prop}{cs:List Value}(h:Row w P cs []):cs=[]:=List.eq_nil_of_length_eq_zero h.1
theorem is_int{w:World}{P:Nat→Prop}{v:Value}{z:Int}(h:Is w P v (.int z)):v=.int .i64 z:=by cases h;rfl
theorem is_str{w:World}{P:Nat→Prop}{v:Value}{l:List UInt8}(h:Is w P v (.str l)):v=.string ⟨l.toArray⟩:=by cases h;rfl
theorem is_bool{w:World}{P:Nat→Prop}{v:Value}{b:Bool}(h:Is w P v (.bool b)):v=.bool b:=by cases h;rfl
theorem is_nil{w:World}{P:Nat→Prop}(size:Nat):Is w P (.slice none 0 0) (.list size []):=.nil _ _ _ (by decide)
abbrev VTy(lo:Nat)(w:World)(v:Value)(t:Ty):Prop:=VRow lo w v (tyD t)
theorem VTy.parts{lo:Nat}{w:World}{v:Value}{k p:Int}{m n:List UInt8}{ls:List Ex}{el ba rs:List Ty}{fs ps:List (List UInt8 × Bool × Ty × Int)}(h:VTy lo w v (.mk k m n ls el ba fs ps rs p)) :
  ∃ v3 v4 v5 v6 v7 v8,v=.agg #[.int .i64 k,.string ⟨m.toArray⟩,.string ⟨n.toArray⟩,v3,v4,v5,v6,v7,v8,.int .i64 p]∧Is w (fun b=>lo≤b) v3 (.list 6 (exDs ls))∧Is w (fun b=>lo≤b) v4 (.list 10 (tyDs el))∧Is w (fun b=>lo≤b) v5 (.list 10 (tyDs ba))∧Is w (fun b=>lo≤b) v6 (.list 13 (fdDs fs))∧Is w (fun b=>lo≤b) v7 (.list 13 (fdDs ps))∧Is w (fun b=>lo≤b) v8 (.list 10 (tyDs rs)):=by
 obtain⟨cs,rfl,h⟩:=h
 unfold tyD at h
 obtain⟨c0,_,rfl,h0,h⟩:=row_inv h
 obtain⟨c1,_,rfl,h1,h⟩:=row_inv h
 obtain⟨c2,_,rfl,h2,h⟩:=row_inv h
 obtain⟨c3,_,rfl,h3,h⟩:=row_inv h
 obtain⟨c4,_,rfl,h4,h⟩:=row_inv h
 obtain⟨c5,_,rfl,h5,h⟩:=row_inv h
 obtain⟨c6,_,rfl,h6,h⟩:=row_inv h
 obtain⟨c7,_,rfl,h7,h⟩:=row_inv h
 obtain⟨c8,_,rfl,h8,h⟩:=row_inv h
 obtain⟨c9,_,rfl,h9,h⟩:=row_inv h
 obtain rfl:=row_inv0 h
 obtain rfl:=is_int h0
 obtain rfl:=is_str h1
 obtain rfl:=is_str h2
 obtain rfl:=is_int h9
 exact⟨c3,c4,c5,c6,c7,c8,rfl,h3,h4,h5,h6,h7,h8⟩
abbrev VFds(lo:Nat)(w:World)(v:Value)(xs:List (List UInt8 × Bool × Ty × Int)):Prop:=Is w (fun b=>lo≤b) v (.list 13 (fdDs xs))
abbrev VTys(lo:Nat)(w:World)(v:Value)(xs:List Ty):Prop:=Is w (fun b=>lo≤b) v (.list 10 (tyDs xs))
abbrev VSts(lo:Nat)(w:World)(v:Value)(xs:List St):Prop:=Is w (fun b=>lo≤b) v (.list 6 (stDs xs))
abbrev CV{α:Type}(f:FuncId)(en:Int)(n:Nat)(F:List Tok→R α)(V:Nat→World→Value→α→Prop):Prop:=∀ w B bp l,l.length≤n→PS w B bp en l→Calls Tryz.prog f #[.pointer (some ⟨bp,0,none⟩)] w (Res w B bp en (F l) (V w.heap.size))
end Fr
namespace Fr
open Da Tr
section
variable {P:Program} {o:Oper} {a:Act} {K:Act→World→Prop} {Q:Exit→Act→World→Prop}
variable {w W:World} {g:Option Nat} {Kp:World→Prop} {R:List RI} {Ds:List (Value × D)}
theorem Fm.rowSlice(h:Fm w g Kp W R Ds){k:Nat}{v:Value}{e:TypeId}{size:Nat}{rows:List (List D)}(hk:R[k]?=some (.row v e size rows)):∃(p:Option Addr) (c:Nat),v=.slice p rows.length c:=by
 rcases h.rowForm hk with⟨h1,h2⟩|⟨b,cap,h1,_⟩
 ·subst h1;exact⟨none,0,h2⟩
 ·exact⟨_,cap,h1⟩
theorem Fm.litR(h:Fm w g Kp W R Ds)(cs:List Value)(e:TypeId)(row:List D)(hr:Row W (Off w.heap.size R) cs row) :
  Fm w g Kp (W.alloc (.cells cs.toArray e)) (.row (.slice (some ⟨W.heap.size,0,none⟩) 1 1) e cs.length [row]::R) Ds:=by
 have h1:=h.alloc cs e
 have hnew:=heap_alloc_new W (.cells cs.toArray e)
 have hal:∀ b,Off w.heap.size R b→b<W.heap.size→Off w.heap.size (.blk W.heap.size cs::R) b:=fun b hb hlt=>⟨hb.1,fun i r hi=>by
  cases i with
  | zero=>simp at hi;subst hi;intro e;simp [RI.fp]at e;omega
  | succ i=>simp at hi;exact hb.2 i r hi⟩
 have h2:=h1.turn (k:=0) (r:=.blk W.heap.size cs) (r':=.row (.slice (some ⟨W.heap.size,0,none⟩) 1 1) e cs.length [row]) rfl (W':=W.alloc (.cells cs.toArray e)) ⟨rfl,rfl,rfl,Nat.le_refl _,fun _ _ _=>rfl⟩ (fun b hb=>by simp [RI.fp,Value.ownBlock]at hb;subst hb;exact .inl rfl) (fun hoff=>⟨fun x hx=>by simp at hx;subst hx;exact hr.1.symm,cs,⟨by simp,.inr ⟨W.heap.size,1,cs.toArray,rfl,h.size,hnew,Nat.le_refl _,by decide,by simp,by simp⟩⟩,?_⟩)
 ·simpa using h2
 ·simp only [List.flatten_cons,List.flatten_nil,List.append_nil]
  refine hr.imp fun x d hd=>is_turn hd (by simp) (fun b _ hlt=>((Below.refl W.heap.size W).alloc (Nat.le_refl _) _).block b hlt) fun b hP hlt=>?_
  exact hoff b (hal b hP hlt) (by simp;omega)
theorem ow_litR(h:Fm w g Kp W R Ds){T e:TypeId}{z:List Value}{bytes:Nat}(hu:P.underlying T=some (.slice e))(hT:TyIs P e z bytes)(hz:z.length≤1000)(hz0:0<z.length){x:Operand}(ho:o.op=.buildSlice T 1 #[(0,x)]){cs:List Value}{xv:Value}(hxv:evalQ a x=some xv)(hx':xv.cells=cs.toArray)(hl:cs.length=z.length){row:List D}(hr:Row W (Off w.heap.size R) cs row)
  (hK:∀(b:Nat) (W':World),Fm w g Kp W' (.row (.slice (some ⟨b,0,none⟩) 1 1) e z.length [row]::R) Ds→K (a.put o.dst (.slice (some ⟨b,0,none⟩) 1 1)) W'):o.wp P a W K Q:=by
 have hx:(a.eval x).cells=cs.toArray:=by rw [evalQ_eval hxv];exact hx'
 have hrun:=run_lit (P:=P) (W:=W) T e 1 #[(0,a.eval x)] cs z bytes hu hT hz hz0 (by decide) (by decide) (fill_one z.length (a.eval x) cs _ hx hl (by simp))
 unfold Oper.wp execOp
 simp only [ho,Sem.run_bind,List.map_toArray,List.map_cons,List.map_nil,hrun,Result.andThen_ok,Sem.run_pure]
 have:=h.litR cs e row hr
 rw [hl]at this
 exact hK _ _ this
theorem wl_litR{ops:Array Oper}{rest:List Oper}{dst:Option Tmp}{ty:TypeId}{pos:String}{after:Array Edge}(h:Fm w g Kp W R Ds){T e:TypeId}{z:List Value}{bytes:Nat}(hu:P.underlying T=some (.slice e))(hT:TyIs P e z bytes)(hz:z.length≤1000)(hz0:0<z.length){x:Operand}{cs:List Value}{xv:Value}(hxv:evalQ a x=some xv)(hx:xv.cells=cs.toArray)(hl:cs.length=z.length)(row:List D)(hr:Row W (Off w.heap.size R) cs row)
  (hK:∀(b:Nat) (W':World),Fm w g Kp W' (.row (.slice (some ⟨b,0,none⟩) 1 1) e z.length [row]::R) Ds→wpList P ops Q rest (a.put dst (.slice (some ⟨b,0,none⟩) 1 1)) W'):wpList P ops Q ({ dst:=dst,op:=.buildSlice T 1 #[(0,x)],type:=ty,pos:=pos,after:=after,guard:=none }::rest) a W:=
 wpList_plain rfl fun K hk=>ow_litR h hu hT hz hz0 rfl hxv hx hl hr fun b W' h'=>hk _ _ (hK b W' h')
end
abbrev dzE:List D:=[.int 0,.int 0,.str [],.str [],.list 6 [],.int 0]
theorem row_zE{W:World}{Pd:Nat→Prop}:Row W Pd zE [.int 0,.int 0,.str [],.str [],.list 6 [],.int 0]:=
 row_cons (.int _) (row_cons (.int _) (row_cons (.str _) (row_cons (.str _) (row_cons (is_nil _) (row_cons (.int _) (row_nil _ _))))))
theorem set_zE{e:Ex}{k n:Int}{t o:List UInt8}{d:D}{p:Int}(h:exD e=[.int k,.int n,.str t,.str o,d,.int p]):setG [D.int 0,.int 0,.str [],.str [],.list 6 [],.int 0] 0 (exD e)=exD e:=by
 rw [h];simp [setG]
theorem last_set{α:Type}(xs:List α)(x y:α):(xs++[x]).set xs.length y=xs++[y]:=by simp
end Fr
end Go.Proofs.YtlhmkfcbldghfaaGreatDoor
