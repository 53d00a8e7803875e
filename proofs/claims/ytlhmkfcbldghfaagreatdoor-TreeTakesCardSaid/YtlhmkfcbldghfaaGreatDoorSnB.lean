/- The walks of tree's all,for four of its types: what holds of each is told to hold of all. Conditions: the list is told;the predicate answers true at each. -/
import Derived.Test.YtlhmkfcbldghfaaGreatDoorSnA
namespace Go.Proofs.YtlhmkfcbldghfaaGreatDoor
set_option linter.all false
open Go.Lib (hid)
set_option maxRecDepth 1000000
set_option maxHeartbeats 16000000
open Go.RowKit
open Fr (is_box is_load wl_box)
theorem clos_tyE(Kp:World→Prop)(I:List Fr.RI→Prop)(hI:∀ r R,I R→I (r::R))(f:Nat)(caps:Array Value)(hc:∀(args:Array Value) (X:World),(callFunc f args).run Tryz.prog X=.ok (.enter f args) X)(ds:List Da.D)(hl:ds.length=6)(hok:PrD rowV Kp I f caps ds)
  {w W:World} {g:Option Nat} {R:List Fr.RI} {Ds:List (Value × Da.D)} (b k:Nat) (vs:List Value) (hR:I R) (hk:R[k]?=some (.blk b [.func (.func f) #[] caps])) (h:Fr.Fm w g Kp W R Ds) (hr:Da.Row W (Fr.Off w.heap.size R) vs ds) :
  Calls Tryz.prog 174 #[.agg vs.toArray,.pointer (some ⟨b,0,none⟩)] W fun e W'=>e=.returned (.bool false)∧Fr.Fm w g Kp W' R Ds:=by
 have HK:=hid hk
 have HIR:=hid hR
 have HOK:=hid hok
 have HF:=hid (h.rowPlus hr)
 have HL:=hid hr.1
 have HL2:=hid (hr.1.trans hl)
 clear h hk hR hok hl hr
 go_enter Tryz.func174,Tryz.ntmps174
 go_wp2_with (first
  | ((with_reducible refine is_box ?_);refine wl_box HF.out rfl rfl ?_;intro bx W1 HF1;replace HF:=hid HF1;clear HF1)
  | ((with_reducible refine is_load (T:=186) ?_);(refine Fr.wl_load1 (k+1) HF.out rfl (by simpa using HK.out) Tryz.underlying186 rfl rfl ?_))
  | ((with_reducible refine is_load (T:=53) ?_);(refine Fr.wl_load 0 HF.out rfl rfl Tryz.underlying53 rfl Fr.tyE HL2.out ?_))
  | ((refine(HOK.out _ _ _ _ _ vs (hI _ _ HIR.out) HF.out (HF.out.rowBack HL.out)).mono ?_);rintro e W3 ⟨rfl,HF1⟩;replace HF:=hid HF1;clear HF1))
 refine bodyPost_ret (v:=.bool false) (by simp [results,Tryz.results174,go_sem];try rfl) rfl ⟨rfl,HF.out.lessR.rowLess⟩
theorem index_tyE(Kp:World→Prop)(I:List Fr.RI→Prop)(hI:∀ r R,I R→I (r::R))(f:Nat)(caps:Array Value)(hc:∀(args:Array Value) (X:World),(callFunc f args).run Tryz.prog X=.ok (.enter f args) X)(rows:List (List Da.D))(hl:∀ ds∈rows,ds.length=6)(hok:∀ ds∈rows,PrD rowV Kp I f caps ds)
  {w W:World} {g:Option Nat} {R:List Fr.RI} {Ds:List (Value × Da.D)} (b k m:Nat) (v:Value) (hR:I R) (hk:R[k]?=some (.blk b [.func (.func f) #[] caps])) (hd:Ds[m]?=some (v,Da.D.list 6 rows)) (h:Fr.Fm w g Kp W R Ds) :
  Calls Tryz.prog 208 #[v,.func (.func 174) #[] #[.pointer (some ⟨b,0,none⟩)]] W fun e W'=>e=.returned (.int .i64 (-1))∧Fr.Fm w g Kp W' R Ds:=by
 obtain⟨p,c,rfl,h2,hpp⟩:=h.daSlice hd
 have HF:=hid h
 have HD:=hid hd
 have HP:=hid hpp
 have HCL:=hid (fun(ds:List Da.D) hl (ho:PrD rowV Kp I f caps ds) (W:World) (vs:List Value) (h:Fr.Fm w g Kp W R Ds) hr=>clos_tyE Kp I hI f caps hc ds hl ho (w:=w) (W:=W) (g:=g) (R:=R) (Ds:=Ds) b k vs hR hk h hr)
 have HOK:=hid hok
 have HLN:=hid hl
 have hl3:(rows.length:Int)≤9223372036854775807:=by omega
 clear h hd hpp hok hc hR hk hl
 go_enter Tryz.func208,Tryz.ntmps208
 go_wp2
 go_loopg [8] rows.length (fun gm v8 wr=>∃ k:Nat,gm=rows.length - k∧k≤rows.length∧v8=.int .i64 k∧RowKit.Hid (Fr.Fm w g Kp wr R Ds))
 case atStart=>exact⟨0,by simp,by omega,rfl,HF⟩
 case round =>
  clear HF
  obtain⟨j,hg,hj,rfl,HF⟩:=hrel
  by_cases hlt:j<rows.length
  ·obtain⟨bx,off,rfl⟩:=HP.out (by omega)
   have hki:(j:Int)<(rows.length:Int):=by omega
   have hk0:(0:Int)≤(j:Int):=by omega
   have hk1:(j:Int)≤9223372036854775807:=by omega
   have hmem:rows[j]∈rows:=List.getElem_mem hlt
   have hi:rows[j]?=some rows[j]:=List.getElem?_eq_getElem hlt
   generalize rows[j]=ds at hmem hi
   have HO1:=hid (HOK.out _ hmem)
   have HLd:=hid (HLN.out _ hmem)
   clear hmem
   go_wp2_with (first
    | ((with_reducible refine is_load (T:=53) ?_);(refine Fr.wl_loadAt m HF.out HD.out j rfl (by first|rfl|omega) hi Tryz.underlying53 rfl Fr.tyE rfl ?_);intro vs hrow;have HRW:=hid hrow;clear hrow)
    | (go_at_call 174;(with_reducible refine(HCL.out _ HLd.out HO1.out _ _ HF.out HRW.out).mono ?_);rintro e W3 ⟨rfl,HF1⟩;replace HF:=hid HF1;clear HF1))
   go_roundg (rows.length - (j+1))
   case rel=>exact⟨j+1,rfl,hlt,by simp,HF⟩
   case measure=>omega
  ·have hki:¬(j:Int)<(rows.length:Int):=by omega
   go_wp2
   refine bodyPost_ret (v:=.int .i64 (-1)) (by simp [results,Tryz.results208,go_sem];try rfl) rfl ⟨rfl,HF.out⟩
theorem all_tyE:AllD rowV 6 132:=by
 intro Kp I hI f caps hc rows hl hok w W g R Ds m v hR hd h
 have HF:=hid h
 have HIX:=hid (fun(W:World) (R:List Fr.RI) (b k:Nat) hR hk hd h=>index_tyE Kp I hI f caps hc rows hl hok (w:=w) (W:=W) (g:=g) (R:=R) (Ds:=Ds) b k m v hR hk hd h)
 have HCT:RowKit.Hid (∀(W:World) (R:List Fr.RI) (b k:Nat),I R→R[k]?=some (.blk b [.func (.func f) #[] caps])→Ds[m]?=some (v,Da.D.list 6 rows)→Fr.Fm w g Kp W R Ds →
   Calls Tryz.prog 173 #[v,.func (.func 174) #[] #[.pointer (some ⟨b,0,none⟩)]] W fun e W'=>e=.returned (.bool false)∧Fr.Fm w g Kp W' R Ds):=hid (by
  intro W R b k hR hk hd h
  have HX:=hid (HIX.out _ _ _ _ hR hk hd h)
  clear h HIX hc hok HF
  go_enter Tryz.func173,Tryz.ntmps173
  go_wp2_with (first
   | (go_at_call 208;(with_reducible refine HX.out.mono ?_);rintro e W3 ⟨rfl,HF1⟩;have HF:=hid HF1;clear HF1))
  refine bodyPost_ret (v:=.bool false) (by simp [results,Tryz.results173,go_sem];try rfl) rfl ⟨rfl,HF.out⟩)
 have HIR:=hid hR
 have HD:=hid hd
 clear h hR hd HIX hc hok
 go_enter Tryz.func132,Tryz.ntmps132
 go_wp2_with (first
  | ((with_reducible refine is_box ?_);refine wl_box HF.out rfl rfl ?_;intro bx W1 HF1;replace HF:=hid HF1;clear HF1)
  | (go_at_call 173;(with_reducible refine(HCT.out _ _ _ 0 (hI _ _ HIR.out) rfl HD.out HF.out).mono ?_);rintro e W3 ⟨rfl,HF1⟩;replace HF:=hid HF1;clear HF1))
 refine bodyPost_ret (v:=.bool true) (by simp [results,Tryz.results132,go_sem];try rfl) rfl ⟨rfl,HF.out.lessR⟩
theorem clos_tySE(Kp:World→Prop)(I:List Fr.RI→Prop)(hI:∀ r R,I R→I (r::R))(f:Nat)(caps:Array Value)(hc:∀(args:Array Value) (X:World),(callFunc f args).run Tryz.prog X=.ok (.enter f args) X)(ds:List Da.D)(hl:ds.length=1)(hok:PrD oneV Kp I f caps ds)
  {w W:World} {g:Option Nat} {R:List Fr.RI} {Ds:List (Value × Da.D)} (b k:Nat) (v0:Value) (hR:I R) (hk:R[k]?=some (.blk b [.func (.func f) #[] caps])) (h:Fr.Fm w g Kp W R Ds) (hr:Da.Row W (Fr.Off w.heap.size R) [v0] ds) :
  Calls Tryz.prog 177 #[v0,.pointer (some ⟨b,0,none⟩)] W fun e W'=>e=.returned (.bool false)∧Fr.Fm w g Kp W' R Ds:=by
 have HK:=hid hk
 have HIR:=hid hR
 have HOK:=hid hok
 have HF:=hid h
 have HRW:=hid hr
 clear h hk hR hok hl hr
 go_enter Tryz.func177,Tryz.ntmps177
 go_wp2_with (first
  | ((with_reducible refine is_load (T:=196) ?_);(refine Fr.wl_load1 k HF.out rfl (by simpa using HK.out) Tryz.underlying196 rfl rfl ?_))
  | ((refine(HOK.out _ _ _ _ _ [v0] HIR.out HF.out HRW.out).mono ?_);rintro e W3 ⟨rfl,HF1⟩;replace HF:=hid HF1;clear HF1))
 refine bodyPost_ret (v:=.bool false) (by simp [results,Tryz.results177,go_sem];try rfl) rfl ⟨rfl,HF.out⟩
theorem index_tySE(Kp:World→Prop)(I:List Fr.RI→Prop)(hI:∀ r R,I R→I (r::R))(f:Nat)(caps:Array Value)(hc:∀(args:Array Value) (X:World),(callFunc f args).run Tryz.prog X=.ok (.enter f args) X)(rows:List (List Da.D))(hl:∀ ds∈rows,ds.length=1)(hok:∀ ds∈rows,PrD oneV Kp I f caps ds)
  {w W:World} {g:Option Nat} {R:List Fr.RI} {Ds:List (Value × Da.D)} (b k m:Nat) (v:Value) (hR:I R) (hk:R[k]?=some (.blk b [.func (.func f) #[] caps])) (hd:Ds[m]?=some (v,Da.D.list 1 rows)) (h:Fr.Fm w g Kp W R Ds) :
  Calls Tryz.prog 209 #[v,.func (.func 177) #[] #[.pointer (some ⟨b,0,none⟩)]] W fun e W'=>e=.returned (.int .i64 (-1))∧Fr.Fm w g Kp W' R Ds:=by
 obtain⟨p,c,rfl,h2,hpp⟩:=h.daSlice hd
 have HF:=hid h
 have HD:=hid hd
 have HP:=hid hpp
 have HCL:=hid (fun(ds:List Da.D) hl (ho:PrD oneV Kp I f caps ds) (W:World) (v0:Value) (h:Fr.Fm w g Kp W R Ds) hr=>clos_tySE Kp I hI f caps hc ds hl ho (w:=w) (W:=W) (g:=g) (R:=R) (Ds:=Ds) b k v0 hR hk h hr)
 have HOK:=hid hok
 have HLN:=hid hl
 have hl3:(rows.length:Int)≤9223372036854775807:=by omega
 clear h hd hpp hok hc hR hk hl
 go_enter Tryz.func209,Tryz.ntmps209
 go_wp2
 go_loopg [8] rows.length (fun gm v8 wr=>∃ k:Nat,gm=rows.length - k∧k≤rows.length∧v8=.int .i64 k∧RowKit.Hid (Fr.Fm w g Kp wr R Ds))
 case atStart=>exact⟨0,by simp,by omega,rfl,HF⟩
 case round =>
  clear HF
  obtain⟨j,hg,hj,rfl,HF⟩:=hrel
  by_cases hlt:j<rows.length
  ·obtain⟨bx,off,rfl⟩:=HP.out (by omega)
   have hki:(j:Int)<(rows.length:Int):=by omega
   have hk0:(0:Int)≤(j:Int):=by omega
   have hk1:(j:Int)≤9223372036854775807:=by omega
   have hmem:rows[j]∈rows:=List.getElem_mem hlt
   have hi:rows[j]?=some rows[j]:=List.getElem?_eq_getElem hlt
   generalize rows[j]=ds at hmem hi
   have HO1:=hid (HOK.out _ hmem)
   have HLd:=hid (HLN.out _ hmem)
   clear hmem
   obtain⟨d0,rfl⟩:∃ d0,ds=[d0]:=List.length_eq_one_iff.1 HLd.out
   go_wp2_with (first
    | ((with_reducible refine is_load (T:=47) ?_);(refine Fr.wl_fieldAt m HF.out HD.out j 0 rfl (by first|rfl|omega) hi rfl Tryz.underlying47 rfl ?_);intro v0 HF1;have HRW:=hid (Da.row_cons (HF1.da 0 _ _ rfl) (Da.row_nil _ _));clear HF1)
    | (go_at_call 177;(with_reducible refine(HCL.out _ HLd.out HO1.out _ v0 HF.out HRW.out).mono ?_);rintro e W3 ⟨rfl,HF1⟩;replace HF:=hid HF1;clear HF1))
   go_roundg (rows.length - (j+1))
   case rel=>exact⟨j+1,rfl,hlt,by simp,HF⟩
   case measure=>omega
  ·have hki:¬(j:Int)<(rows.length:Int):=by omega
   go_wp2
   refine bodyPost_ret (v:=.int .i64 (-1)) (by simp [results,Tryz.results209,go_sem];try rfl) rfl ⟨rfl,HF.out⟩
theorem all_tySE:AllD oneV 1 136:=by
 intro Kp I hI f caps hc rows hl hok w W g R Ds m v hR hd h
 have HF:=hid h
 have HIX:=hid (fun(W:World) (R:List Fr.RI) (b k:Nat) hR hk hd h=>index_tySE Kp I hI f caps hc rows hl hok (w:=w) (W:=W) (g:=g) (R:=R) (Ds:=Ds) b k m v hR hk hd h)
 have HCT:RowKit.Hid (∀(W:World) (R:List Fr.RI) (b k:Nat),I R→R[k]?=some (.blk b [.func (.func f) #[] caps])→Ds[m]?=some (v,Da.D.list 1 rows)→Fr.Fm w g Kp W R Ds →
   Calls Tryz.prog 176 #[v,.func (.func 177) #[] #[.pointer (some ⟨b,0,none⟩)]] W fun e W'=>e=.returned (.bool false)∧Fr.Fm w g Kp W' R Ds):=hid (by
  intro W R b k hR hk hd h
  have HX:=hid (HIX.out _ _ _ _ hR hk hd h)
  clear h HIX hc hok HF
  go_enter Tryz.func176,Tryz.ntmps176
  go_wp2_with (first
   | (go_at_call 209;(with_reducible refine HX.out.mono ?_);rintro e W3 ⟨rfl,HF1⟩;have HF:=hid HF1;clear HF1))
  refine bodyPost_ret (v:=.bool false) (by simp [results,Tryz.results176,go_sem];try rfl) rfl ⟨rfl,HF.out⟩)
 have HIR:=hid hR
 have HD:=hid hd
 clear h hR hd HIX hc hok
 go_enter Tryz.func136,Tryz.ntmps136
 go_wp2_with (first
  | ((with_reducible refine is_box ?_);refine wl_box HF.out rfl rfl ?_;intro bx W1 HF1;replace HF:=hid HF1;clear HF1)
  | (go_at_call 176;(with_reducible refine(HCT.out _ _ _ 0 (hI _ _ HIR.out) rfl HD.out HF.out).mono ?_);rintro e W3 ⟨rfl,HF1⟩;replace HF:=hid HF1;clear HF1))
 refine bodyPost_ret (v:=.bool true) (by simp [results,Tryz.results136,go_sem];try rfl) rfl ⟨rfl,HF.out.lessR⟩
theorem clos_tyS(Kp:World→Prop)(I:List Fr.RI→Prop)(hI:∀ r R,I R→I (r::R))(f:Nat)(caps:Array Value)(hc:∀(args:Array Value) (X:World),(callFunc f args).run Tryz.prog X=.ok (.enter f args) X)(ds:List Da.D)(hl:ds.length=6)(hok:PrD rowV Kp I f caps ds)
  {w W:World} {g:Option Nat} {R:List Fr.RI} {Ds:List (Value × Da.D)} (b k:Nat) (vs:List Value) (hR:I R) (hk:R[k]?=some (.blk b [.func (.func f) #[] caps])) (h:Fr.Fm w g Kp W R Ds) (hr:Da.Row W (Fr.Off w.heap.size R) vs ds) :
  Calls Tryz.prog 134 #[.agg vs.toArray,.pointer (some ⟨b,0,none⟩)] W fun e W'=>e=.returned (.bool false)∧Fr.Fm w g Kp W' R Ds:=by
 have HK:=hid hk
 have HIR:=hid hR
 have HOK:=hid hok
 have HF:=hid (h.rowPlus hr)
 have HL:=hid hr.1
 have HL2:=hid (hr.1.trans hl)
 clear h hk hR hok hl hr
 go_enter Tryz.func134,Tryz.ntmps134
 go_wp2_with (first
  | ((with_reducible refine is_box ?_);refine wl_box HF.out rfl rfl ?_;intro bx W1 HF1;replace HF:=hid HF1;clear HF1)
  | ((with_reducible refine is_load (T:=154) ?_);(refine Fr.wl_load1 (k+1) HF.out rfl (by simpa using HK.out) Tryz.underlying154 rfl rfl ?_))
  | ((with_reducible refine is_load (T:=51) ?_);(refine Fr.wl_load 0 HF.out rfl rfl Tryz.underlying51 rfl Fr.tyS HL2.out ?_))
  | ((refine(HOK.out _ _ _ _ _ vs (hI _ _ HIR.out) HF.out (HF.out.rowBack HL.out)).mono ?_);rintro e W3 ⟨rfl,HF1⟩;replace HF:=hid HF1;clear HF1))
 refine bodyPost_ret (v:=.bool false) (by simp [results,Tryz.results134,go_sem];try rfl) rfl ⟨rfl,HF.out.lessR.rowLess⟩
theorem index_tyS(Kp:World→Prop)(I:List Fr.RI→Prop)(hI:∀ r R,I R→I (r::R))(f:Nat)(caps:Array Value)(hc:∀(args:Array Value) (X:World),(callFunc f args).run Tryz.prog X=.ok (.enter f args) X)(rows:List (List Da.D))(hl:∀ ds∈rows,ds.length=6)(hok:∀ ds∈rows,PrD rowV Kp I f caps ds)
  {w W:World} {g:Option Nat} {R:List Fr.RI} {Ds:List (Value × Da.D)} (b k m:Nat) (v:Value) (hR:I R) (hk:R[k]?=some (.blk b [.func (.func f) #[] caps])) (hd:Ds[m]?=some (v,Da.D.list 6 rows)) (h:Fr.Fm w g Kp W R Ds) :
  Calls Tryz.prog 175 #[v,.func (.func 134) #[] #[.pointer (some ⟨b,0,none⟩)]] W fun e W'=>e=.returned (.int .i64 (-1))∧Fr.Fm w g Kp W' R Ds:=by
 obtain⟨p,c,rfl,h2,hpp⟩:=h.daSlice hd
 have HF:=hid h
 have HD:=hid hd
 have HP:=hid hpp
 have HCL:=hid (fun(ds:List Da.D) hl (ho:PrD rowV Kp I f caps ds) (W:World) (vs:List Value) (h:Fr.Fm w g Kp W R Ds) hr=>clos_tyS Kp I hI f caps hc ds hl ho (w:=w) (W:=W) (g:=g) (R:=R) (Ds:=Ds) b k vs hR hk h hr)
 have HOK:=hid hok
 have HLN:=hid hl
 have hl3:(rows.length:Int)≤9223372036854775807:=by omega
 clear h hd hpp hok hc hR hk hl
 go_enter Tryz.func175,Tryz.ntmps175
 go_wp2
 go_loopg [8] rows.length (fun gm v8 wr=>∃ k:Nat,gm=rows.length - k∧k≤rows.length∧v8=.int .i64 k∧RowKit.Hid (Fr.Fm w g Kp wr R Ds))
 case atStart=>exact⟨0,by simp,by omega,rfl,HF⟩
 case round =>
  clear HF
  obtain⟨j,hg,hj,rfl,HF⟩:=hrel
  by_cases hlt:j<rows.length
  ·obtain⟨bx,off,rfl⟩:=HP.out (by omega)
   have hki:(j:Int)<(rows.length:Int):=by omega
   have hk0:(0:Int)≤(j:Int):=by omega
   have hk1:(j:Int)≤9223372036854775807:=by omega
   have hmem:rows[j]∈rows:=List.getElem_mem hlt
   have hi:rows[j]?=some rows[j]:=List.getElem?_eq_getElem hlt
   generalize rows[j]=ds at hmem hi
   have HO1:=hid (HOK.out _ hmem)
   have HLd:=hid (HLN.out _ hmem)
   clear hmem
   go_wp2_with (first
    | ((with_reducible refine is_load (T:=51) ?_);(refine Fr.wl_loadAt m HF.out HD.out j rfl (by first|rfl|omega) hi Tryz.underlying51 rfl Fr.tyS rfl ?_);intro vs hrow;have HRW:=hid hrow;clear hrow)
    | (go_at_call 134;(with_reducible refine(HCL.out _ HLd.out HO1.out _ _ HF.out HRW.out).mono ?_);rintro e W3 ⟨rfl,HF1⟩;replace HF:=hid HF1;clear HF1))
   go_roundg (rows.length - (j+1))
   case rel=>exact⟨j+1,rfl,hlt,by simp,HF⟩
   case measure=>omega
  ·have hki:¬(j:Int)<(rows.length:Int):=by omega
   go_wp2
   refine bodyPost_ret (v:=.int .i64 (-1)) (by simp [results,Tryz.results175,go_sem];try rfl) rfl ⟨rfl,HF.out⟩
theorem all_tyS:AllD rowV 6 87:=by
 intro Kp I hI f caps hc rows hl hok w W g R Ds m v hR hd h
 have HF:=hid h
 have HIX:=hid (fun(W:World) (R:List Fr.RI) (b k:Nat) hR hk hd h=>index_tyS Kp I hI f caps hc rows hl hok (w:=w) (W:=W) (g:=g) (R:=R) (Ds:=Ds) b k m v hR hk hd h)
 have HCT:RowKit.Hid (∀(W:World) (R:List Fr.RI) (b k:Nat),I R→R[k]?=some (.blk b [.func (.func f) #[] caps])→Ds[m]?=some (v,Da.D.list 6 rows)→Fr.Fm w g Kp W R Ds →
   Calls Tryz.prog 133 #[v,.func (.func 134) #[] #[.pointer (some ⟨b,0,none⟩)]] W fun e W'=>e=.returned (.bool false)∧Fr.Fm w g Kp W' R Ds):=hid (by
  intro W R b k hR hk hd h
  have HX:=hid (HIX.out _ _ _ _ hR hk hd h)
  clear h HIX hc hok HF
  go_enter Tryz.func133,Tryz.ntmps133
  go_wp2_with (first
   | (go_at_call 175;(with_reducible refine HX.out.mono ?_);rintro e W3 ⟨rfl,HF1⟩;have HF:=hid HF1;clear HF1))
  refine bodyPost_ret (v:=.bool false) (by simp [results,Tryz.results133,go_sem];try rfl) rfl ⟨rfl,HF.out⟩)
 have HIR:=hid hR
 have HD:=hid hd
 clear h hR hd HIX hc hok
 go_enter Tryz.func87,Tryz.ntmps87
 go_wp2_with (first
  | ((with_reducible refine is_box ?_);refine wl_box HF.out rfl rfl ?_;intro bx W1 HF1;replace HF:=hid HF1;clear HF1)
  | (go_at_call 133;(with_reducible refine(HCT.out _ _ _ 0 (hI _ _ HIR.out) rfl HD.out HF.out).mono ?_);rintro e W3 ⟨rfl,HF1⟩;replace HF:=hid HF1;clear HF1))
 refine bodyPost_ret (v:=.bool true) (by simp [results,Tryz.results87,go_sem];try rfl) rfl ⟨rfl,HF.out.lessR⟩
theorem clos_tySS(Kp:World→Prop)(I:List Fr.RI→Prop)(hI:∀ r R,I R→I (r::R))(f:Nat)(caps:Array Value)(hc:∀(args:Array Value) (X:World),(callFunc f args).run Tryz.prog X=.ok (.enter f args) X)(ds:List Da.D)(hl:ds.length=1)(hok:PrD oneV Kp I f caps ds)
  {w W:World} {g:Option Nat} {R:List Fr.RI} {Ds:List (Value × Da.D)} (b k:Nat) (v0:Value) (hR:I R) (hk:R[k]?=some (.blk b [.func (.func f) #[] caps])) (h:Fr.Fm w g Kp W R Ds) (hr:Da.Row W (Fr.Off w.heap.size R) [v0] ds) :
  Calls Tryz.prog 179 #[v0,.pointer (some ⟨b,0,none⟩)] W fun e W'=>e=.returned (.bool false)∧Fr.Fm w g Kp W' R Ds:=by
 have HK:=hid hk
 have HIR:=hid hR
 have HOK:=hid hok
 have HF:=hid h
 have HRW:=hid hr
 clear h hk hR hok hl hr
 go_enter Tryz.func179,Tryz.ntmps179
 go_wp2_with (first
  | ((with_reducible refine is_load (T:=198) ?_);(refine Fr.wl_load1 k HF.out rfl (by simpa using HK.out) Tryz.underlying198 rfl rfl ?_))
  | ((refine(HOK.out _ _ _ _ _ [v0] HIR.out HF.out HRW.out).mono ?_);rintro e W3 ⟨rfl,HF1⟩;replace HF:=hid HF1;clear HF1))
 refine bodyPost_ret (v:=.bool false) (by simp [results,Tryz.results179,go_sem];try rfl) rfl ⟨rfl,HF.out⟩
theorem index_tySS(Kp:World→Prop)(I:List Fr.RI→Prop)(hI:∀ r R,I R→I (r::R))(f:Nat)(caps:Array Value)(hc:∀(args:Array Value) (X:World),(callFunc f args).run Tryz.prog X=.ok (.enter f args) X)(rows:List (List Da.D))(hl:∀ ds∈rows,ds.length=1)(hok:∀ ds∈rows,PrD oneV Kp I f caps ds)
  {w W:World} {g:Option Nat} {R:List Fr.RI} {Ds:List (Value × Da.D)} (b k m:Nat) (v:Value) (hR:I R) (hk:R[k]?=some (.blk b [.func (.func f) #[] caps])) (hd:Ds[m]?=some (v,Da.D.list 1 rows)) (h:Fr.Fm w g Kp W R Ds) :
  Calls Tryz.prog 210 #[v,.func (.func 179) #[] #[.pointer (some ⟨b,0,none⟩)]] W fun e W'=>e=.returned (.int .i64 (-1))∧Fr.Fm w g Kp W' R Ds:=by
 obtain⟨p,c,rfl,h2,hpp⟩:=h.daSlice hd
 have HF:=hid h
 have HD:=hid hd
 have HP:=hid hpp
 have HCL:=hid (fun(ds:List Da.D) hl (ho:PrD oneV Kp I f caps ds) (W:World) (v0:Value) (h:Fr.Fm w g Kp W R Ds) hr=>clos_tySS Kp I hI f caps hc ds hl ho (w:=w) (W:=W) (g:=g) (R:=R) (Ds:=Ds) b k v0 hR hk h hr)
 have HOK:=hid hok
 have HLN:=hid hl
 have hl3:(rows.length:Int)≤9223372036854775807:=by omega
 clear h hd hpp hok hc hR hk hl
 go_enter Tryz.func210,Tryz.ntmps210
 go_wp2
 go_loopg [8] rows.length (fun gm v8 wr=>∃ k:Nat,gm=rows.length - k∧k≤rows.length∧v8=.int .i64 k∧RowKit.Hid (Fr.Fm w g Kp wr R Ds))
 case atStart=>exact⟨0,by simp,by omega,rfl,HF⟩
 case round =>
  clear HF
  obtain⟨j,hg,hj,rfl,HF⟩:=hrel
  by_cases hlt:j<rows.length
  ·obtain⟨bx,off,rfl⟩:=HP.out (by omega)
   have hki:(j:Int)<(rows.length:Int):=by omega
   have hk0:(0:Int)≤(j:Int):=by omega
   have hk1:(j:Int)≤9223372036854775807:=by omega
   have hmem:rows[j]∈rows:=List.getElem_mem hlt
   have hi:rows[j]?=some rows[j]:=List.getElem?_eq_getElem hlt
   generalize rows[j]=ds at hmem hi
   have HO1:=hid (HOK.out _ hmem)
   have HLd:=hid (HLN.out _ hmem)
   clear hmem
   obtain⟨d0,rfl⟩:∃ d0,ds=[d0]:=List.length_eq_one_iff.1 HLd.out
   go_wp2_with (first
    | ((with_reducible refine is_load (T:=28) ?_);(refine Fr.wl_fieldAt m HF.out HD.out j 0 rfl (by first|rfl|omega) hi rfl Tryz.underlying28 rfl ?_);intro v0 HF1;have HRW:=hid (Da.row_cons (HF1.da 0 _ _ rfl) (Da.row_nil _ _));clear HF1)
    | (go_at_call 179;(with_reducible refine(HCL.out _ HLd.out HO1.out _ v0 HF.out HRW.out).mono ?_);rintro e W3 ⟨rfl,HF1⟩;replace HF:=hid HF1;clear HF1))
   go_roundg (rows.length - (j+1))
   case rel=>exact⟨j+1,rfl,hlt,by simp,HF⟩
   case measure=>omega
  ·have hki:¬(j:Int)<(rows.length:Int):=by omega
   go_wp2
   refine bodyPost_ret (v:=.int .i64 (-1)) (by simp [results,Tryz.results210,go_sem];try rfl) rfl ⟨rfl,HF.out⟩
theorem all_tySS:AllD oneV 1 139:=by
 intro Kp I hI f caps hc rows hl hok w W g R Ds m v hR hd h
 have HF:=hid h
 have HIX:=hid (fun(W:World) (R:List Fr.RI) (b k:Nat) hR hk hd h=>index_tySS Kp I hI f caps hc rows hl hok (w:=w) (W:=W) (g:=g) (R:=R) (Ds:=Ds) b k m v hR hk hd h)
 have HCT:RowKit.Hid (∀(W:World) (R:List Fr.RI) (b k:Nat),I R→R[k]?=some (.blk b [.func (.func f) #[] caps])→Ds[m]?=some (v,Da.D.list 1 rows)→Fr.Fm w g Kp W R Ds →
   Calls Tryz.prog 178 #[v,.func (.func 179) #[] #[.pointer (some ⟨b,0,none⟩)]] W fun e W'=>e=.returned (.bool false)∧Fr.Fm w g Kp W' R Ds):=hid (by
  intro W R b k hR hk hd h
  have HX:=hid (HIX.out _ _ _ _ hR hk hd h)
  clear h HIX hc hok HF
  go_enter Tryz.func178,Tryz.ntmps178
  go_wp2_with (first
   | (go_at_call 210;(with_reducible refine HX.out.mono ?_);rintro e W3 ⟨rfl,HF1⟩;have HF:=hid HF1;clear HF1))
  refine bodyPost_ret (v:=.bool false) (by simp [results,Tryz.results178,go_sem];try rfl) rfl ⟨rfl,HF.out⟩)
 have HIR:=hid hR
 have HD:=hid hd
 clear h hR hd HIX hc hok
 go_enter Tryz.func139,Tryz.ntmps139
 go_wp2_with (first
  | ((with_reducible refine is_box ?_);refine wl_box HF.out rfl rfl ?_;intro bx W1 HF1;replace HF:=hid HF1;clear HF1)
  | (go_at_call 178;(with_reducible refine(HCT.out _ _ _ 0 (hI _ _ HIR.out) rfl HD.out HF.out).mono ?_);rintro e W3 ⟨rfl,HF1⟩;replace HF:=hid HF1;clear HF1))
 refine bodyPost_ret (v:=.bool true) (by simp [results,Tryz.results139,go_sem];try rfl) rfl ⟨rfl,HF.out.lessR⟩
end Go.Proofs.YtlhmkfcbldghfaaGreatDoor
