/- The walks of tree's all,for four of its types: what holds of each is told to hold of all. Conditions: the list is told;the predicate answers true at each. -/
import Derived.Test.YtlhmkfcbldghfaaGreatDoorSnA
namespace Go.Proofs.YtlhmkfcbldghfaaGreatDoor
set_option linter.all false
open Go.Lib (hid)
set_option maxRecDepth 1000000
set_option maxHeartbeats 16000000
open Go.RowKit
open Fr (is_box is_load wl_box wl_load wl_load1 wl_loadAt)
theorem clos_tyT(Kp:World→Prop)(I:List Fr.RI→Prop)(hI:∀ r R,I R→I (r::R))(f:Nat)(caps:Array Value)(hc:∀(args:Array Value) (X:World),(callFunc f args).run Tryz.prog X=.ok (.enter f args) X)(ds:List Da.D)(hl:ds.length=10)(hok:PrD rowV Kp I f caps ds)
  {w W:World} {g:Option Nat} {R:List Fr.RI} {Ds:List (Value × Da.D)} (b k:Nat) (vs:List Value) (hR:I R) (hk:R[k]?=some (.blk b [.func (.func f) #[] caps])) (h:Fr.Fm w g Kp W R Ds) (hr:Da.Row W (Fr.Off w.heap.size R) vs ds) :
  Calls Tryz.prog 202 #[.agg vs.toArray,.pointer (some ⟨b,0,none⟩)] W fun e W'=>e=.returned (.bool false)∧Fr.Fm w g Kp W' R Ds:=by
 have HK:=hid hk
 have HIR:=hid hR
 have HOK:=hid hok
 have HF:=hid (h.rowPlus hr)
 have HL:=hid hr.1
 have HL2:=hid (hr.1.trans hl)
 clear h hk hR hok hl hr
 go_enter Tryz.func202,Tryz.ntmps202
 go_wp2_with (first
  | ((with_reducible refine is_box ?_);refine wl_box HF.out rfl rfl ?_;intro bx W1 HF1;replace HF:=hid HF1;clear HF1)
  | ((with_reducible refine is_load (T:=189) ?_);(refine wl_load1 (k+1) HF.out rfl (by simpa using HK.out) Tryz.underlying189 rfl rfl ?_))
  | ((with_reducible refine is_load (T:=123) ?_);(refine wl_load 0 HF.out rfl rfl Tryz.underlying123 rfl Fr.tyT HL2.out ?_))
  | ((refine(HOK.out _ _ _ _ _ vs (hI _ _ HIR.out) HF.out (HF.out.rowBack HL.out)).mono ?_);rintro e W3 ⟨rfl,HF1⟩;replace HF:=hid HF1;clear HF1))
 refine bodyPost_ret (v:=.bool false) (by simp [results,Tryz.results202,go_sem];try rfl) rfl ⟨rfl,HF.out.lessR.rowLess⟩
theorem index_tyT(Kp:World→Prop)(I:List Fr.RI→Prop)(hI:∀ r R,I R→I (r::R))(f:Nat)(caps:Array Value)(hc:∀(args:Array Value) (X:World),(callFunc f args).run Tryz.prog X=.ok (.enter f args) X)(rows:List (List Da.D))(hl:∀ ds∈rows,ds.length=10)(hok:∀ ds∈rows,PrD rowV Kp I f caps ds)
  {w W:World} {g:Option Nat} {R:List Fr.RI} {Ds:List (Value × Da.D)} (b k m:Nat) (v:Value) (hR:I R) (hk:R[k]?=some (.blk b [.func (.func f) #[] caps])) (hd:Ds[m]?=some (v,Da.D.list 10 rows)) (h:Fr.Fm w g Kp W R Ds) :
  Calls Tryz.prog 228 #[v,.func (.func 202) #[] #[.pointer (some ⟨b,0,none⟩)]] W fun e W'=>e=.returned (.int .i64 (-1))∧Fr.Fm w g Kp W' R Ds:=by
 obtain⟨p,c,rfl,h2,hpp⟩:=h.daSlice hd
 have HF:=hid h
 have HD:=hid hd
 have HP:=hid hpp
 have HCL:=hid (fun(ds:List Da.D) hl (ho:PrD rowV Kp I f caps ds) (W:World) (vs:List Value) (h:Fr.Fm w g Kp W R Ds) hr=>clos_tyT Kp I hI f caps hc ds hl ho (w:=w) (W:=W) (g:=g) (R:=R) (Ds:=Ds) b k vs hR hk h hr)
 have HOK:=hid hok
 have HLN:=hid hl
 have hl3:(rows.length:Int)≤9223372036854775807:=by omega
 clear h hd hpp hok hc hR hk hl
 go_enter Tryz.func228,Tryz.ntmps228
 go_wp2
 go_loopg [8] rows.length (fun gm v8 wr=>∃ k:Nat,gm=rows.length - k∧k≤rows.length∧v8=.int .i64 k∧RowKit.Hid (Fr.Fm w g Kp wr R Ds))
 case atStart=>exact⟨0,by simp,by omega,rfl,HF⟩
 case round =>
  clear HF
  obtain⟨j,hg,hj,rfl,HF⟩:=hrel
  by_cases hlt:j<rows.length
  ·obtain⟨bx,off,rfl⟩:=HP.out (by omega)
   have hki:(j:Int)<(rows.length:Int):=by omega
   have hk0:(0:Int)≤(j:Int):=by omega
   have hk1:(j:Int)≤9223372036854775807:=by omega
   have hmem:rows[j]∈rows:=List.getElem_mem hlt
   have hi:rows[j]?=some rows[j]:=List.getElem?_eq_getElem hlt
   generalize rows[j]=ds at hmem hi
   have HO1:=hid (HOK.out _ hmem)
   have HLd:=hid (HLN.out _ hmem)
   clear hmem
   go_wp2_with (first
    | ((with_reducible refine is_load (T:=123) ?_);(refine wl_loadAt m HF.out HD.out j rfl (by first|rfl|omega) hi Tryz.underlying123 rfl Fr.tyT rfl ?_);intro vs hrow;have HRW:=hid hrow;clear hrow)
    | (go_at_call 202;(with_reducible refine(HCL.out _ HLd.out HO1.out _ _ HF.out HRW.out).mono ?_);rintro e W3 ⟨rfl,HF1⟩;replace HF:=hid HF1;clear HF1))
   go_roundg (rows.length - (j+1))
   case rel=>exact⟨j+1,rfl,hlt,by simp,HF⟩
   case measure=>omega
  ·have hki:¬(j:Int)<(rows.length:Int):=by omega
   go_wp2
   refine bodyPost_ret (v:=.int .i64 (-1)) (by simp [results,Tryz.results228,go_sem];try rfl) rfl ⟨rfl,HF.out⟩
theorem all_tyT:AllD rowV 10 164:=by
 intro Kp I hI f caps hc rows hl hok w W g R Ds m v hR hd h
 have HF:=hid h
 have HIX:=hid (fun(W:World) (R:List Fr.RI) (b k:Nat) hR hk hd h=>index_tyT Kp I hI f caps hc rows hl hok (w:=w) (W:=W) (g:=g) (R:=R) (Ds:=Ds) b k m v hR hk hd h)
 have HCT:RowKit.Hid (∀(W:World) (R:List Fr.RI) (b k:Nat),I R→R[k]?=some (.blk b [.func (.func f) #[] caps])→Ds[m]?=some (v,Da.D.list 10 rows)→Fr.Fm w g Kp W R Ds →
   Calls Tryz.prog 201 #[v,.func (.func 202) #[] #[.pointer (some ⟨b,0,none⟩)]] W fun e W'=>e=.returned (.bool false)∧Fr.Fm w g Kp W' R Ds):=hid (by
  intro W R b k hR hk hd h
  have HX:=hid (HIX.out _ _ _ _ hR hk hd h)
  clear h HIX hc hok HF
  go_enter Tryz.func201,Tryz.ntmps201
  go_wp2_with (first
   | (go_at_call 228;(with_reducible refine HX.out.mono ?_);rintro e W3 ⟨rfl,HF1⟩;have HF:=hid HF1;clear HF1))
  refine bodyPost_ret (v:=.bool false) (by simp [results,Tryz.results201,go_sem];try rfl) rfl ⟨rfl,HF.out⟩)
 have HIR:=hid hR
 have HD:=hid hd
 clear h hR hd HIX hc hok
 go_enter Tryz.func164,Tryz.ntmps164
 go_wp2_with (first
  | ((with_reducible refine is_box ?_);refine wl_box HF.out rfl rfl ?_;intro bx W1 HF1;replace HF:=hid HF1;clear HF1)
  | (go_at_call 201;(with_reducible refine(HCT.out _ _ _ 0 (hI _ _ HIR.out) rfl HD.out HF.out).mono ?_);rintro e W3 ⟨rfl,HF1⟩;replace HF:=hid HF1;clear HF1))
 refine bodyPost_ret (v:=.bool true) (by simp [results,Tryz.results164,go_sem];try rfl) rfl ⟨rfl,HF.out.lessR⟩
theorem clos_tyF(Kp:World→Prop)(I:List Fr.RI→Prop)(hI:∀ r R,I R→I (r::R))(f:Nat)(caps:Array Value)(hc:∀(args:Array Value) (X:World),(callFunc f args).run Tryz.prog X=.ok (.enter f args) X)(ds:List Da.D)(hl:ds.length=13)(hok:PrD rowV Kp I f caps ds)
  {w W:World} {g:Option Nat} {R:List Fr.RI} {Ds:List (Value × Da.D)} (b k:Nat) (vs:List Value) (hR:I R) (hk:R[k]?=some (.blk b [.func (.func f) #[] caps])) (h:Fr.Fm w g Kp W R Ds) (hr:Da.Row W (Fr.Off w.heap.size R) vs ds) :
  Calls Tryz.prog 204 #[.agg vs.toArray,.pointer (some ⟨b,0,none⟩)] W fun e W'=>e=.returned (.bool false)∧Fr.Fm w g Kp W' R Ds:=by
 have HK:=hid hk
 have HIR:=hid hR
 have HOK:=hid hok
 have HF:=hid (h.rowPlus hr)
 have HL:=hid hr.1
 have HL2:=hid (hr.1.trans hl)
 clear h hk hR hok hl hr
 go_enter Tryz.func204,Tryz.ntmps204
 go_wp2_with (first
  | ((with_reducible refine is_box ?_);refine wl_box HF.out rfl rfl ?_;intro bx W1 HF1;replace HF:=hid HF1;clear HF1)
  | ((with_reducible refine is_load (T:=230) ?_);(refine wl_load1 (k+1) HF.out rfl (by simpa using HK.out) Tryz.underlying230 rfl rfl ?_))
  | ((with_reducible refine is_load (T:=129) ?_);(refine wl_load 0 HF.out rfl rfl Tryz.underlying129 rfl Fr.tyF HL2.out ?_))
  | ((refine(HOK.out _ _ _ _ _ vs (hI _ _ HIR.out) HF.out (HF.out.rowBack HL.out)).mono ?_);rintro e W3 ⟨rfl,HF1⟩;replace HF:=hid HF1;clear HF1))
 refine bodyPost_ret (v:=.bool false) (by simp [results,Tryz.results204,go_sem];try rfl) rfl ⟨rfl,HF.out.lessR.rowLess⟩
theorem index_tyF(Kp:World→Prop)(I:List Fr.RI→Prop)(hI:∀ r R,I R→I (r::R))(f:Nat)(caps:Array Value)(hc:∀(args:Array Value) (X:World),(callFunc f args).run Tryz.prog X=.ok (.enter f args) X)(rows:List (List Da.D))(hl:∀ ds∈rows,ds.length=13)(hok:∀ ds∈rows,PrD rowV Kp I f caps ds)
  {w W:World} {g:Option Nat} {R:List Fr.RI} {Ds:List (Value × Da.D)} (b k m:Nat) (v:Value) (hR:I R) (hk:R[k]?=some (.blk b [.func (.func f) #[] caps])) (hd:Ds[m]?=some (v,Da.D.list 13 rows)) (h:Fr.Fm w g Kp W R Ds) :
  Calls Tryz.prog 229 #[v,.func (.func 204) #[] #[.pointer (some ⟨b,0,none⟩)]] W fun e W'=>e=.returned (.int .i64 (-1))∧Fr.Fm w g Kp W' R Ds:=by
 obtain⟨p,c,rfl,h2,hpp⟩:=h.daSlice hd
 have HF:=hid h
 have HD:=hid hd
 have HP:=hid hpp
 have HCL:=hid (fun(ds:List Da.D) hl (ho:PrD rowV Kp I f caps ds) (W:World) (vs:List Value) (h:Fr.Fm w g Kp W R Ds) hr=>clos_tyF Kp I hI f caps hc ds hl ho (w:=w) (W:=W) (g:=g) (R:=R) (Ds:=Ds) b k vs hR hk h hr)
 have HOK:=hid hok
 have HLN:=hid hl
 have hl3:(rows.length:Int)≤9223372036854775807:=by omega
 clear h hd hpp hok hc hR hk hl
 go_enter Tryz.func229,Tryz.ntmps229
 go_wp2
 go_loopg [8] rows.length (fun gm v8 wr=>∃ k:Nat,gm=rows.length - k∧k≤rows.length∧v8=.int .i64 k∧RowKit.Hid (Fr.Fm w g Kp wr R Ds))
 case atStart=>exact⟨0,by simp,by omega,rfl,HF⟩
 case round =>
  clear HF
  obtain⟨j,hg,hj,rfl,HF⟩:=hrel
  by_cases hlt:j<rows.length
  ·obtain⟨bx,off,rfl⟩:=HP.out (by omega)
   have hki:(j:Int)<(rows.length:Int):=by omega
   have hk0:(0:Int)≤(j:Int):=by omega
   have hk1:(j:Int)≤9223372036854775807:=by omega
   have hmem:rows[j]∈rows:=List.getElem_mem hlt
   have hi:rows[j]?=some rows[j]:=List.getElem?_eq_getElem hlt
   generalize rows[j]=ds at hmem hi
   have HO1:=hid (HOK.out _ hmem)
   have HLd:=hid (HLN.out _ hmem)
   clear hmem
   go_wp2_with (first
    | ((with_reducible refine is_load (T:=129) ?_);(refine wl_loadAt m HF.out HD.out j rfl (by first|rfl|omega) hi Tryz.underlying129 rfl Fr.tyF rfl ?_);intro vs hrow;have HRW:=hid hrow;clear hrow)
    | (go_at_call 204;(with_reducible refine(HCL.out _ HLd.out HO1.out _ _ HF.out HRW.out).mono ?_);rintro e W3 ⟨rfl,HF1⟩;replace HF:=hid HF1;clear HF1))
   go_roundg (rows.length - (j+1))
   case rel=>exact⟨j+1,rfl,hlt,by simp,HF⟩
   case measure=>omega
  ·have hki:¬(j:Int)<(rows.length:Int):=by omega
   go_wp2
   refine bodyPost_ret (v:=.int .i64 (-1)) (by simp [results,Tryz.results229,go_sem];try rfl) rfl ⟨rfl,HF.out⟩
theorem all_tyF:AllD rowV 13 165:=by
 intro Kp I hI f caps hc rows hl hok w W g R Ds m v hR hd h
 have HF:=hid h
 have HIX:=hid (fun(W:World) (R:List Fr.RI) (b k:Nat) hR hk hd h=>index_tyF Kp I hI f caps hc rows hl hok (w:=w) (W:=W) (g:=g) (R:=R) (Ds:=Ds) b k m v hR hk hd h)
 have HCT:RowKit.Hid (∀(W:World) (R:List Fr.RI) (b k:Nat),I R→R[k]?=some (.blk b [.func (.func f) #[] caps])→Ds[m]?=some (v,Da.D.list 13 rows)→Fr.Fm w g Kp W R Ds →
   Calls Tryz.prog 203 #[v,.func (.func 204) #[] #[.pointer (some ⟨b,0,none⟩)]] W fun e W'=>e=.returned (.bool false)∧Fr.Fm w g Kp W' R Ds):=hid (by
  intro W R b k hR hk hd h
  have HX:=hid (HIX.out _ _ _ _ hR hk hd h)
  clear h HIX hc hok HF
  go_enter Tryz.func203,Tryz.ntmps203
  go_wp2_with (first
   | (go_at_call 229;(with_reducible refine HX.out.mono ?_);rintro e W3 ⟨rfl,HF1⟩;have HF:=hid HF1;clear HF1))
  refine bodyPost_ret (v:=.bool false) (by simp [results,Tryz.results203,go_sem];try rfl) rfl ⟨rfl,HF.out⟩)
 have HIR:=hid hR
 have HD:=hid hd
 clear h hR hd HIX hc hok
 go_enter Tryz.func165,Tryz.ntmps165
 go_wp2_with (first
  | ((with_reducible refine is_box ?_);refine wl_box HF.out rfl rfl ?_;intro bx W1 HF1;replace HF:=hid HF1;clear HF1)
  | (go_at_call 203;(with_reducible refine(HCT.out _ _ _ 0 (hI _ _ HIR.out) rfl HD.out HF.out).mono ?_);rintro e W3 ⟨rfl,HF1⟩;replace HF:=hid HF1;clear HF1))
 refine bodyPost_ret (v:=.bool true) (by simp [results,Tryz.results165,go_sem];try rfl) rfl ⟨rfl,HF.out.lessR⟩
theorem clos_tyPa(Kp:World→Prop)(I:List Fr.RI→Prop)(hI:∀ r R,I R→I (r::R))(f:Nat)(caps:Array Value)(hc:∀(args:Array Value) (X:World),(callFunc f args).run Tryz.prog X=.ok (.enter f args) X)(ds:List Da.D)(hl:ds.length=13)(hok:PrD rowV Kp I f caps ds)
  {w W:World} {g:Option Nat} {R:List Fr.RI} {Ds:List (Value × Da.D)} (b k:Nat) (vs:List Value) (hR:I R) (hk:R[k]?=some (.blk b [.func (.func f) #[] caps])) (h:Fr.Fm w g Kp W R Ds) (hr:Da.Row W (Fr.Off w.heap.size R) vs ds) :
  Calls Tryz.prog 207 #[.agg vs.toArray,.pointer (some ⟨b,0,none⟩)] W fun e W'=>e=.returned (.bool false)∧Fr.Fm w g Kp W' R Ds:=by
 have HK:=hid hk
 have HIR:=hid hR
 have HOK:=hid hok
 have HF:=hid (h.rowPlus hr)
 have HL:=hid hr.1
 have HL2:=hid (hr.1.trans hl)
 clear h hk hR hok hl hr
 go_enter Tryz.func207,Tryz.ntmps207
 go_wp2_with (first
  | ((with_reducible refine is_box ?_);refine wl_box HF.out rfl rfl ?_;intro bx W1 HF1;replace HF:=hid HF1;clear HF1)
  | ((with_reducible refine is_load (T:=233) ?_);(refine wl_load1 (k+1) HF.out rfl (by simpa using HK.out) Tryz.underlying233 rfl rfl ?_))
  | ((with_reducible refine is_load (T:=128) ?_);(refine wl_load 0 HF.out rfl rfl Tryz.underlying128 rfl Fr.tyPa HL2.out ?_))
  | ((refine(HOK.out _ _ _ _ _ vs (hI _ _ HIR.out) HF.out (HF.out.rowBack HL.out)).mono ?_);rintro e W3 ⟨rfl,HF1⟩;replace HF:=hid HF1;clear HF1))
 refine bodyPost_ret (v:=.bool false) (by simp [results,Tryz.results207,go_sem];try rfl) rfl ⟨rfl,HF.out.lessR.rowLess⟩
theorem index_tyPa(Kp:World→Prop)(I:List Fr.RI→Prop)(hI:∀ r R,I R→I (r::R))(f:Nat)(caps:Array Value)(hc:∀(args:Array Value) (X:World),(callFunc f args).run Tryz.prog X=.ok (.enter f args) X)(rows:List (List Da.D))(hl:∀ ds∈rows,ds.length=13)(hok:∀ ds∈rows,PrD rowV Kp I f caps ds)
  {w W:World} {g:Option Nat} {R:List Fr.RI} {Ds:List (Value × Da.D)} (b k m:Nat) (v:Value) (hR:I R) (hk:R[k]?=some (.blk b [.func (.func f) #[] caps])) (hd:Ds[m]?=some (v,Da.D.list 13 rows)) (h:Fr.Fm w g Kp W R Ds) :
  Calls Tryz.prog 230 #[v,.func (.func 207) #[] #[.pointer (some ⟨b,0,none⟩)]] W fun e W'=>e=.returned (.int .i64 (-1))∧Fr.Fm w g Kp W' R Ds:=by
 obtain⟨p,c,rfl,h2,hpp⟩:=h.daSlice hd
 have HF:=hid h
 have HD:=hid hd
 have HP:=hid hpp
 have HCL:=hid (fun(ds:List Da.D) hl (ho:PrD rowV Kp I f caps ds) (W:World) (vs:List Value) (h:Fr.Fm w g Kp W R Ds) hr=>clos_tyPa Kp I hI f caps hc ds hl ho (w:=w) (W:=W) (g:=g) (R:=R) (Ds:=Ds) b k vs hR hk h hr)
 have HOK:=hid hok
 have HLN:=hid hl
 have hl3:(rows.length:Int)≤9223372036854775807:=by omega
 clear h hd hpp hok hc hR hk hl
 go_enter Tryz.func230,Tryz.ntmps230
 go_wp2
 go_loopg [8] rows.length (fun gm v8 wr=>∃ k:Nat,gm=rows.length - k∧k≤rows.length∧v8=.int .i64 k∧RowKit.Hid (Fr.Fm w g Kp wr R Ds))
 case atStart=>exact⟨0,by simp,by omega,rfl,HF⟩
 case round =>
  clear HF
  obtain⟨j,hg,hj,rfl,HF⟩:=hrel
  by_cases hlt:j<rows.length
  ·obtain⟨bx,off,rfl⟩:=HP.out (by omega)
   have hki:(j:Int)<(rows.length:Int):=by omega
   have hk0:(0:Int)≤(j:Int):=by omega
   have hk1:(j:Int)≤9223372036854775807:=by omega
   have hmem:rows[j]∈rows:=List.getElem_mem hlt
   have hi:rows[j]?=some rows[j]:=List.getElem?_eq_getElem hlt
   generalize rows[j]=ds at hmem hi
   have HO1:=hid (HOK.out _ hmem)
   have HLd:=hid (HLN.out _ hmem)
   clear hmem
   go_wp2_with (first
    | ((with_reducible refine is_load (T:=128) ?_);(refine wl_loadAt m HF.out HD.out j rfl (by first|rfl|omega) hi Tryz.underlying128 rfl Fr.tyPa rfl ?_);intro vs hrow;have HRW:=hid hrow;clear hrow)
    | (go_at_call 207;(with_reducible refine(HCL.out _ HLd.out HO1.out _ _ HF.out HRW.out).mono ?_);rintro e W3 ⟨rfl,HF1⟩;replace HF:=hid HF1;clear HF1))
   go_roundg (rows.length - (j+1))
   case rel=>exact⟨j+1,rfl,hlt,by simp,HF⟩
   case measure=>omega
  ·have hki:¬(j:Int)<(rows.length:Int):=by omega
   go_wp2
   refine bodyPost_ret (v:=.int .i64 (-1)) (by simp [results,Tryz.results230,go_sem];try rfl) rfl ⟨rfl,HF.out⟩
theorem all_tyPa:AllD rowV 13 170:=by
 intro Kp I hI f caps hc rows hl hok w W g R Ds m v hR hd h
 have HF:=hid h
 have HIX:=hid (fun(W:World) (R:List Fr.RI) (b k:Nat) hR hk hd h=>index_tyPa Kp I hI f caps hc rows hl hok (w:=w) (W:=W) (g:=g) (R:=R) (Ds:=Ds) b k m v hR hk hd h)
 have HCT:RowKit.Hid (∀(W:World) (R:List Fr.RI) (b k:Nat),I R→R[k]?=some (.blk b [.func (.func f) #[] caps])→Ds[m]?=some (v,Da.D.list 13 rows)→Fr.Fm w g Kp W R Ds →
   Calls Tryz.prog 206 #[v,.func (.func 207) #[] #[.pointer (some ⟨b,0,none⟩)]] W fun e W'=>e=.returned (.bool false)∧Fr.Fm w g Kp W' R Ds):=hid (by
  intro W R b k hR hk hd h
  have HX:=hid (HIX.out _ _ _ _ hR hk hd h)
  clear h HIX hc hok HF
  go_enter Tryz.func206,Tryz.ntmps206
  go_wp2_with (first
   | (go_at_call 230;(with_reducible refine HX.out.mono ?_);rintro e W3 ⟨rfl,HF1⟩;have HF:=hid HF1;clear HF1))
  refine bodyPost_ret (v:=.bool false) (by simp [results,Tryz.results206,go_sem];try rfl) rfl ⟨rfl,HF.out⟩)
 have HIR:=hid hR
 have HD:=hid hd
 clear h hR hd HIX hc hok
 go_enter Tryz.func170,Tryz.ntmps170
 go_wp2_with (first
  | ((with_reducible refine is_box ?_);refine wl_box HF.out rfl rfl ?_;intro bx W1 HF1;replace HF:=hid HF1;clear HF1)
  | (go_at_call 206;(with_reducible refine(HCT.out _ _ _ 0 (hI _ _ HIR.out) rfl HD.out HF.out).mono ?_);rintro e W3 ⟨rfl,HF1⟩;replace HF:=hid HF1;clear HF1))
 refine bodyPost_ret (v:=.bool true) (by simp [results,Tryz.results170,go_sem];try rfl) rfl ⟨rfl,HF.out.lessR⟩
theorem clos_tyC(Kp:World→Prop)(I:List Fr.RI→Prop)(hI:∀ r R,I R→I (r::R))(f:Nat)(caps:Array Value)(hc:∀(args:Array Value) (X:World),(callFunc f args).run Tryz.prog X=.ok (.enter f args) X)(ds:List Da.D)(hl:ds.length=9)(hok:PrD rowV Kp I f caps ds)
  {w W:World} {g:Option Nat} {R:List Fr.RI} {Ds:List (Value × Da.D)} (b k:Nat) (vs:List Value) (hR:I R) (hk:R[k]?=some (.blk b [.func (.func f) #[] caps])) (h:Fr.Fm w g Kp W R Ds) (hr:Da.Row W (Fr.Off w.heap.size R) vs ds) :
  Calls Tryz.prog 157 #[.agg vs.toArray,.pointer (some ⟨b,0,none⟩)] W fun e W'=>e=.returned (.bool false)∧Fr.Fm w g Kp W' R Ds:=by
 have HK:=hid hk
 have HIR:=hid hR
 have HOK:=hid hok
 have HF:=hid (h.rowPlus hr)
 have HL:=hid hr.1
 have HL2:=hid (hr.1.trans hl)
 clear h hk hR hok hl hr
 go_enter Tryz.func157,Tryz.ntmps157
 go_wp2_with (first
  | ((with_reducible refine is_box ?_);refine wl_box HF.out rfl rfl ?_;intro bx W1 HF1;replace HF:=hid HF1;clear HF1)
  | ((with_reducible refine is_load (T:=187) ?_);(refine wl_load1 (k+1) HF.out rfl (by simpa using HK.out) Tryz.underlying187 rfl rfl ?_))
  | ((with_reducible refine is_load (T:=120) ?_);(refine wl_load 0 HF.out rfl rfl Tryz.underlying120 rfl Fr.tyC HL2.out ?_))
  | ((refine(HOK.out _ _ _ _ _ vs (hI _ _ HIR.out) HF.out (HF.out.rowBack HL.out)).mono ?_);rintro e W3 ⟨rfl,HF1⟩;replace HF:=hid HF1;clear HF1))
 refine bodyPost_ret (v:=.bool false) (by simp [results,Tryz.results157,go_sem];try rfl) rfl ⟨rfl,HF.out.lessR.rowLess⟩
theorem index_tyC(Kp:World→Prop)(I:List Fr.RI→Prop)(hI:∀ r R,I R→I (r::R))(f:Nat)(caps:Array Value)(hc:∀(args:Array Value) (X:World),(callFunc f args).run Tryz.prog X=.ok (.enter f args) X)(rows:List (List Da.D))(hl:∀ ds∈rows,ds.length=9)(hok:∀ ds∈rows,PrD rowV Kp I f caps ds)
  {w W:World} {g:Option Nat} {R:List Fr.RI} {Ds:List (Value × Da.D)} (b k m:Nat) (v:Value) (hR:I R) (hk:R[k]?=some (.blk b [.func (.func f) #[] caps])) (hd:Ds[m]?=some (v,Da.D.list 9 rows)) (h:Fr.Fm w g Kp W R Ds) :
  Calls Tryz.prog 198 #[v,.func (.func 157) #[] #[.pointer (some ⟨b,0,none⟩)]] W fun e W'=>e=.returned (.int .i64 (-1))∧Fr.Fm w g Kp W' R Ds:=by
 obtain⟨p,c,rfl,h2,hpp⟩:=h.daSlice hd
 have HF:=hid h
 have HD:=hid hd
 have HP:=hid hpp
 have HCL:=hid (fun(ds:List Da.D) hl (ho:PrD rowV Kp I f caps ds) (W:World) (vs:List Value) (h:Fr.Fm w g Kp W R Ds) hr=>clos_tyC Kp I hI f caps hc ds hl ho (w:=w) (W:=W) (g:=g) (R:=R) (Ds:=Ds) b k vs hR hk h hr)
 have HOK:=hid hok
 have HLN:=hid hl
 have hl3:(rows.length:Int)≤9223372036854775807:=by omega
 clear h hd hpp hok hc hR hk hl
 go_enter Tryz.func198,Tryz.ntmps198
 go_wp2
 go_loopg [8] rows.length (fun gm v8 wr=>∃ k:Nat,gm=rows.length - k∧k≤rows.length∧v8=.int .i64 k∧RowKit.Hid (Fr.Fm w g Kp wr R Ds))
 case atStart=>exact⟨0,by simp,by omega,rfl,HF⟩
 case round =>
  clear HF
  obtain⟨j,hg,hj,rfl,HF⟩:=hrel
  by_cases hlt:j<rows.length
  ·obtain⟨bx,off,rfl⟩:=HP.out (by omega)
   have hki:(j:Int)<(rows.length:Int):=by omega
   have hk0:(0:Int)≤(j:Int):=by omega
   have hk1:(j:Int)≤9223372036854775807:=by omega
   have hmem:rows[j]∈rows:=List.getElem_mem hlt
   have hi:rows[j]?=some rows[j]:=List.getElem?_eq_getElem hlt
   generalize rows[j]=ds at hmem hi
   have HO1:=hid (HOK.out _ hmem)
   have HLd:=hid (HLN.out _ hmem)
   clear hmem
   go_wp2_with (first
    | ((with_reducible refine is_load (T:=120) ?_);(refine wl_loadAt m HF.out HD.out j rfl (by first|rfl|omega) hi Tryz.underlying120 rfl Fr.tyC rfl ?_);intro vs hrow;have HRW:=hid hrow;clear hrow)
    | (go_at_call 157;(with_reducible refine(HCL.out _ HLd.out HO1.out _ _ HF.out HRW.out).mono ?_);rintro e W3 ⟨rfl,HF1⟩;replace HF:=hid HF1;clear HF1))
   go_roundg (rows.length - (j+1))
   case rel=>exact⟨j+1,rfl,hlt,by simp,HF⟩
   case measure=>omega
  ·have hki:¬(j:Int)<(rows.length:Int):=by omega
   go_wp2
   refine bodyPost_ret (v:=.int .i64 (-1)) (by simp [results,Tryz.results198,go_sem];try rfl) rfl ⟨rfl,HF.out⟩
theorem all_tyC:AllD rowV 9 121:=by
 intro Kp I hI f caps hc rows hl hok w W g R Ds m v hR hd h
 have HF:=hid h
 have HIX:=hid (fun(W:World) (R:List Fr.RI) (b k:Nat) hR hk hd h=>index_tyC Kp I hI f caps hc rows hl hok (w:=w) (W:=W) (g:=g) (R:=R) (Ds:=Ds) b k m v hR hk hd h)
 have HCT:RowKit.Hid (∀(W:World) (R:List Fr.RI) (b k:Nat),I R→R[k]?=some (.blk b [.func (.func f) #[] caps])→Ds[m]?=some (v,Da.D.list 9 rows)→Fr.Fm w g Kp W R Ds →
   Calls Tryz.prog 156 #[v,.func (.func 157) #[] #[.pointer (some ⟨b,0,none⟩)]] W fun e W'=>e=.returned (.bool false)∧Fr.Fm w g Kp W' R Ds):=hid (by
  intro W R b k hR hk hd h
  have HX:=hid (HIX.out _ _ _ _ hR hk hd h)
  clear h HIX hc hok HF
  go_enter Tryz.func156,Tryz.ntmps156
  go_wp2_with (first
   | (go_at_call 198;(with_reducible refine HX.out.mono ?_);rintro e W3 ⟨rfl,HF1⟩;have HF:=hid HF1;clear HF1))
  refine bodyPost_ret (v:=.bool false) (by simp [results,Tryz.results156,go_sem];try rfl) rfl ⟨rfl,HF.out⟩)
 have HIR:=hid hR
 have HD:=hid hd
 clear h hR hd HIX hc hok
 go_enter Tryz.func121,Tryz.ntmps121
 go_wp2_with (first
  | ((with_reducible refine is_box ?_);refine wl_box HF.out rfl rfl ?_;intro bx W1 HF1;replace HF:=hid HF1;clear HF1)
  | (go_at_call 156;(with_reducible refine(HCT.out _ _ _ 0 (hI _ _ HIR.out) rfl HD.out HF.out).mono ?_);rintro e W3 ⟨rfl,HF1⟩;replace HF:=hid HF1;clear HF1))
 refine bodyPost_ret (v:=.bool true) (by simp [results,Tryz.results121,go_sem];try rfl) rfl ⟨rfl,HF.out.lessR⟩
theorem clos_tyTy(Kp:World→Prop)(I:List Fr.RI→Prop)(hI:∀ r R,I R→I (r::R))(f:Nat)(caps:Array Value)(hc:∀(args:Array Value) (X:World),(callFunc f args).run Tryz.prog X=.ok (.enter f args) X)(ds:List Da.D)(hl:ds.length=13)(hok:PrD rowV Kp I f caps ds)
  {w W:World} {g:Option Nat} {R:List Fr.RI} {Ds:List (Value × Da.D)} (b k:Nat) (vs:List Value) (hR:I R) (hk:R[k]?=some (.blk b [.func (.func f) #[] caps])) (h:Fr.Fm w g Kp W R Ds) (hr:Da.Row W (Fr.Off w.heap.size R) vs ds) :
  Calls Tryz.prog 161 #[.agg vs.toArray,.pointer (some ⟨b,0,none⟩)] W fun e W'=>e=.returned (.bool false)∧Fr.Fm w g Kp W' R Ds:=by
 have HK:=hid hk
 have HIR:=hid hR
 have HOK:=hid hok
 have HF:=hid (h.rowPlus hr)
 have HL:=hid hr.1
 have HL2:=hid (hr.1.trans hl)
 clear h hk hR hok hl hr
 go_enter Tryz.func161,Tryz.ntmps161
 go_wp2_with (first
  | ((with_reducible refine is_box ?_);refine wl_box HF.out rfl rfl ?_;intro bx W1 HF1;replace HF:=hid HF1;clear HF1)
  | ((with_reducible refine is_load (T:=190) ?_);(refine wl_load1 (k+1) HF.out rfl (by simpa using HK.out) Tryz.underlying190 rfl rfl ?_))
  | ((with_reducible refine is_load (T:=125) ?_);(refine wl_load 0 HF.out rfl rfl Tryz.underlying125 rfl Fr.tyTy HL2.out ?_))
  | ((refine(HOK.out _ _ _ _ _ vs (hI _ _ HIR.out) HF.out (HF.out.rowBack HL.out)).mono ?_);rintro e W3 ⟨rfl,HF1⟩;replace HF:=hid HF1;clear HF1))
 refine bodyPost_ret (v:=.bool false) (by simp [results,Tryz.results161,go_sem];try rfl) rfl ⟨rfl,HF.out.lessR.rowLess⟩
theorem index_tyTy(Kp:World→Prop)(I:List Fr.RI→Prop)(hI:∀ r R,I R→I (r::R))(f:Nat)(caps:Array Value)(hc:∀(args:Array Value) (X:World),(callFunc f args).run Tryz.prog X=.ok (.enter f args) X)(rows:List (List Da.D))(hl:∀ ds∈rows,ds.length=13)(hok:∀ ds∈rows,PrD rowV Kp I f caps ds)
  {w W:World} {g:Option Nat} {R:List Fr.RI} {Ds:List (Value × Da.D)} (b k m:Nat) (v:Value) (hR:I R) (hk:R[k]?=some (.blk b [.func (.func f) #[] caps])) (hd:Ds[m]?=some (v,Da.D.list 13 rows)) (h:Fr.Fm w g Kp W R Ds) :
  Calls Tryz.prog 200 #[v,.func (.func 161) #[] #[.pointer (some ⟨b,0,none⟩)]] W fun e W'=>e=.returned (.int .i64 (-1))∧Fr.Fm w g Kp W' R Ds:=by
 obtain⟨p,c,rfl,h2,hpp⟩:=h.daSlice hd
 have HF:=hid h
 have HD:=hid hd
 have HP:=hid hpp
 have HCL:=hid (fun(ds:List Da.D) hl (ho:PrD rowV Kp I f caps ds) (W:World) (vs:List Value) (h:Fr.Fm w g Kp W R Ds) hr=>clos_tyTy Kp I hI f caps hc ds hl ho (w:=w) (W:=W) (g:=g) (R:=R) (Ds:=Ds) b k vs hR hk h hr)
 have HOK:=hid hok
 have HLN:=hid hl
 have hl3:(rows.length:Int)≤9223372036854775807:=by omega
 clear h hd hpp hok hc hR hk hl
 go_enter Tryz.func200,Tryz.ntmps200
 go_wp2
 go_loopg [8] rows.length (fun gm v8 wr=>∃ k:Nat,gm=rows.length - k∧k≤rows.length∧v8=.int .i64 k∧RowKit.Hid (Fr.Fm w g Kp wr R Ds))
 case atStart=>exact⟨0,by simp,by omega,rfl,HF⟩
 case round =>
  clear HF
  obtain⟨j,hg,hj,rfl,HF⟩:=hrel
  by_cases hlt:j<rows.length
  ·obtain⟨bx,off,rfl⟩:=HP.out (by omega)
   have hki:(j:Int)<(rows.length:Int):=by omega
   have hk0:(0:Int)≤(j:Int):=by omega
   have hk1:(j:Int)≤9223372036854775807:=by omega
   have hmem:rows[j]∈rows:=List.getElem_mem hlt
   have hi:rows[j]?=some rows[j]:=List.getElem?_eq_getElem hlt
   generalize rows[j]=ds at hmem hi
   have HO1:=hid (HOK.out _ hmem)
   have HLd:=hid (HLN.out _ hmem)
   clear hmem
   go_wp2_with (first
    | ((with_reducible refine is_load (T:=125) ?_);(refine wl_loadAt m HF.out HD.out j rfl (by first|rfl|omega) hi Tryz.underlying125 rfl Fr.tyTy rfl ?_);intro vs hrow;have HRW:=hid hrow;clear hrow)
    | (go_at_call 161;(with_reducible refine(HCL.out _ HLd.out HO1.out _ _ HF.out HRW.out).mono ?_);rintro e W3 ⟨rfl,HF1⟩;replace HF:=hid HF1;clear HF1))
   go_roundg (rows.length - (j+1))
   case rel=>exact⟨j+1,rfl,hlt,by simp,HF⟩
   case measure=>omega
  ·have hki:¬(j:Int)<(rows.length:Int):=by omega
   go_wp2
   refine bodyPost_ret (v:=.int .i64 (-1)) (by simp [results,Tryz.results200,go_sem];try rfl) rfl ⟨rfl,HF.out⟩
theorem all_tyTy:AllD rowV 13 124:=by
 intro Kp I hI f caps hc rows hl hok w W g R Ds m v hR hd h
 have HF:=hid h
 have HIX:=hid (fun(W:World) (R:List Fr.RI) (b k:Nat) hR hk hd h=>index_tyTy Kp I hI f caps hc rows hl hok (w:=w) (W:=W) (g:=g) (R:=R) (Ds:=Ds) b k m v hR hk hd h)
 have HCT:RowKit.Hid (∀(W:World) (R:List Fr.RI) (b k:Nat),I R→R[k]?=some (.blk b [.func (.func f) #[] caps])→Ds[m]?=some (v,Da.D.list 13 rows)→Fr.Fm w g Kp W R Ds →
   Calls Tryz.prog 160 #[v,.func (.func 161) #[] #[.pointer (some ⟨b,0,none⟩)]] W fun e W'=>e=.returned (.bool false)∧Fr.Fm w g Kp W' R Ds):=hid (by
  intro W R b k hR hk hd h
  have HX:=hid (HIX.out _ _ _ _ hR hk hd h)
  clear h HIX hc hok HF
  go_enter Tryz.func160,Tryz.ntmps160
  go_wp2_with (first
   | (go_at_call 200;(with_reducible refine HX.out.mono ?_);rintro e W3 ⟨rfl,HF1⟩;have HF:=hid HF1;clear HF1))
  refine bodyPost_ret (v:=.bool false) (by simp [results,Tryz.results160,go_sem];try rfl) rfl ⟨rfl,HF.out⟩)
 have HIR:=hid hR
 have HD:=hid hd
 clear h hR hd HIX hc hok
 go_enter Tryz.func124,Tryz.ntmps124
 go_wp2_with (first
  | ((with_reducible refine is_box ?_);refine wl_box HF.out rfl rfl ?_;intro bx W1 HF1;replace HF:=hid HF1;clear HF1)
  | (go_at_call 160;(with_reducible refine(HCT.out _ _ _ 0 (hI _ _ HIR.out) rfl HD.out HF.out).mono ?_);rintro e W3 ⟨rfl,HF1⟩;replace HF:=hid HF1;clear HF1))
 refine bodyPost_ret (v:=.bool true) (by simp [results,Tryz.results124,go_sem];try rfl) rfl ⟨rfl,HF.out.lessR⟩
theorem clos_tyV(Kp:World→Prop)(I:List Fr.RI→Prop)(hI:∀ r R,I R→I (r::R))(f:Nat)(caps:Array Value)(hc:∀(args:Array Value) (X:World),(callFunc f args).run Tryz.prog X=.ok (.enter f args) X)(ds:List Da.D)(hl:ds.length=13)(hok:PrD rowV Kp I f caps ds)
  {w W:World} {g:Option Nat} {R:List Fr.RI} {Ds:List (Value × Da.D)} (b k:Nat) (vs:List Value) (hR:I R) (hk:R[k]?=some (.blk b [.func (.func f) #[] caps])) (h:Fr.Fm w g Kp W R Ds) (hr:Da.Row W (Fr.Off w.heap.size R) vs ds) :
  Calls Tryz.prog 168 #[.agg vs.toArray,.pointer (some ⟨b,0,none⟩)] W fun e W'=>e=.returned (.bool false)∧Fr.Fm w g Kp W' R Ds:=by
 have HK:=hid hk
 have HIR:=hid hR
 have HOK:=hid hok
 have HF:=hid (h.rowPlus hr)
 have HL:=hid hr.1
 have HL2:=hid (hr.1.trans hl)
 clear h hk hR hok hl hr
 go_enter Tryz.func168,Tryz.ntmps168
 go_wp2_with (first
  | ((with_reducible refine is_box ?_);refine wl_box HF.out rfl rfl ?_;intro bx W1 HF1;replace HF:=hid HF1;clear HF1)
  | ((with_reducible refine is_load (T:=192) ?_);(refine wl_load1 (k+1) HF.out rfl (by simpa using HK.out) Tryz.underlying192 rfl rfl ?_))
  | ((with_reducible refine is_load (T:=126) ?_);(refine wl_load 0 HF.out rfl rfl Tryz.underlying126 rfl Fr.tyV HL2.out ?_))
  | ((refine(HOK.out _ _ _ _ _ vs (hI _ _ HIR.out) HF.out (HF.out.rowBack HL.out)).mono ?_);rintro e W3 ⟨rfl,HF1⟩;replace HF:=hid HF1;clear HF1))
 refine bodyPost_ret (v:=.bool false) (by simp [results,Tryz.results168,go_sem];try rfl) rfl ⟨rfl,HF.out.lessR.rowLess⟩
theorem index_tyV(Kp:World→Prop)(I:List Fr.RI→Prop)(hI:∀ r R,I R→I (r::R))(f:Nat)(caps:Array Value)(hc:∀(args:Array Value) (X:World),(callFunc f args).run Tryz.prog X=.ok (.enter f args) X)(rows:List (List Da.D))(hl:∀ ds∈rows,ds.length=13)(hok:∀ ds∈rows,PrD rowV Kp I f caps ds)
  {w W:World} {g:Option Nat} {R:List Fr.RI} {Ds:List (Value × Da.D)} (b k m:Nat) (v:Value) (hR:I R) (hk:R[k]?=some (.blk b [.func (.func f) #[] caps])) (hd:Ds[m]?=some (v,Da.D.list 13 rows)) (h:Fr.Fm w g Kp W R Ds) :
  Calls Tryz.prog 205 #[v,.func (.func 168) #[] #[.pointer (some ⟨b,0,none⟩)]] W fun e W'=>e=.returned (.int .i64 (-1))∧Fr.Fm w g Kp W' R Ds:=by
 obtain⟨p,c,rfl,h2,hpp⟩:=h.daSlice hd
 have HF:=hid h
 have HD:=hid hd
 have HP:=hid hpp
 have HCL:=hid (fun(ds:List Da.D) hl (ho:PrD rowV Kp I f caps ds) (W:World) (vs:List Value) (h:Fr.Fm w g Kp W R Ds) hr=>clos_tyV Kp I hI f caps hc ds hl ho (w:=w) (W:=W) (g:=g) (R:=R) (Ds:=Ds) b k vs hR hk h hr)
 have HOK:=hid hok
 have HLN:=hid hl
 have hl3:(rows.length:Int)≤9223372036854775807:=by omega
 clear h hd hpp hok hc hR hk hl
 go_enter Tryz.func205,Tryz.ntmps205
 go_wp2
 go_loopg [8] rows.length (fun gm v8 wr=>∃ k:Nat,gm=rows.length - k∧k≤rows.length∧v8=.int .i64 k∧RowKit.Hid (Fr.Fm w g Kp wr R Ds))
 case atStart=>exact⟨0,by simp,by omega,rfl,HF⟩
 case round =>
  clear HF
  obtain⟨j,hg,hj,rfl,HF⟩:=hrel
  by_cases hlt:j<rows.length
  ·obtain⟨bx,off,rfl⟩:=HP.out (by omega)
   have hki:(j:Int)<(rows.length:Int):=by omega
   have hk0:(0:Int)≤(j:Int):=by omega
   have hk1:(j:Int)≤9223372036854775807:=by omega
   have hmem:rows[j]∈rows:=List.getElem_mem hlt
   have hi:rows[j]?=some rows[j]:=List.getElem?_eq_getElem hlt
   generalize rows[j]=ds at hmem hi
   have HO1:=hid (HOK.out _ hmem)
   have HLd:=hid (HLN.out _ hmem)
   clear hmem
   go_wp2_with (first
    | ((with_reducible refine is_load (T:=126) ?_);(refine wl_loadAt m HF.out HD.out j rfl (by first|rfl|omega) hi Tryz.underlying126 rfl Fr.tyV rfl ?_);intro vs hrow;have HRW:=hid hrow;clear hrow)
    | (go_at_call 168;(with_reducible refine(HCL.out _ HLd.out HO1.out _ _ HF.out HRW.out).mono ?_);rintro e W3 ⟨rfl,HF1⟩;replace HF:=hid HF1;clear HF1))
   go_roundg (rows.length - (j+1))
   case rel=>exact⟨j+1,rfl,hlt,by simp,HF⟩
   case measure=>omega
  ·have hki:¬(j:Int)<(rows.length:Int):=by omega
   go_wp2
   refine bodyPost_ret (v:=.int .i64 (-1)) (by simp [results,Tryz.results205,go_sem];try rfl) rfl ⟨rfl,HF.out⟩
theorem all_tyV:AllD rowV 13 127:=by
 intro Kp I hI f caps hc rows hl hok w W g R Ds m v hR hd h
 have HF:=hid h
 have HIX:=hid (fun(W:World) (R:List Fr.RI) (b k:Nat) hR hk hd h=>index_tyV Kp I hI f caps hc rows hl hok (w:=w) (W:=W) (g:=g) (R:=R) (Ds:=Ds) b k m v hR hk hd h)
 have HCT:RowKit.Hid (∀(W:World) (R:List Fr.RI) (b k:Nat),I R→R[k]?=some (.blk b [.func (.func f) #[] caps])→Ds[m]?=some (v,Da.D.list 13 rows)→Fr.Fm w g Kp W R Ds →
   Calls Tryz.prog 167 #[v,.func (.func 168) #[] #[.pointer (some ⟨b,0,none⟩)]] W fun e W'=>e=.returned (.bool false)∧Fr.Fm w g Kp W' R Ds):=hid (by
  intro W R b k hR hk hd h
  have HX:=hid (HIX.out _ _ _ _ hR hk hd h)
  clear h HIX hc hok HF
  go_enter Tryz.func167,Tryz.ntmps167
  go_wp2_with (first
   | (go_at_call 205;(with_reducible refine HX.out.mono ?_);rintro e W3 ⟨rfl,HF1⟩;have HF:=hid HF1;clear HF1))
  refine bodyPost_ret (v:=.bool false) (by simp [results,Tryz.results167,go_sem];try rfl) rfl ⟨rfl,HF.out⟩)
 have HIR:=hid hR
 have HD:=hid hd
 clear h hR hd HIX hc hok
 go_enter Tryz.func127,Tryz.ntmps127
 go_wp2_with (first
  | ((with_reducible refine is_box ?_);refine wl_box HF.out rfl rfl ?_;intro bx W1 HF1;replace HF:=hid HF1;clear HF1)
  | (go_at_call 167;(with_reducible refine(HCT.out _ _ _ 0 (hI _ _ HIR.out) rfl HD.out HF.out).mono ?_);rintro e W3 ⟨rfl,HF1⟩;replace HF:=hid HF1;clear HF1))
 refine bodyPost_ret (v:=.bool true) (by simp [results,Tryz.results127,go_sem];try rfl) rfl ⟨rfl,HF.out.lessR⟩
theorem clos_tyI(Kp:World→Prop)(I:List Fr.RI→Prop)(hI:∀ r R,I R→I (r::R))(f:Nat)(caps:Array Value)(hc:∀(args:Array Value) (X:World),(callFunc f args).run Tryz.prog X=.ok (.enter f args) X)(ds:List Da.D)(hl:ds.length=3)(hok:PrD rowV Kp I f caps ds)
  {w W:World} {g:Option Nat} {R:List Fr.RI} {Ds:List (Value × Da.D)} (b k:Nat) (vs:List Value) (hR:I R) (hk:R[k]?=some (.blk b [.func (.func f) #[] caps])) (h:Fr.Fm w g Kp W R Ds) (hr:Da.Row W (Fr.Off w.heap.size R) vs ds) :
  Calls Tryz.prog 120 #[.agg vs.toArray,.pointer (some ⟨b,0,none⟩)] W fun e W'=>e=.returned (.bool false)∧Fr.Fm w g Kp W' R Ds:=by
 have HK:=hid hk
 have HIR:=hid hR
 have HOK:=hid hok
 have HF:=hid (h.rowPlus hr)
 have HL:=hid hr.1
 have HL2:=hid (hr.1.trans hl)
 clear h hk hR hok hl hr
 go_enter Tryz.func120,Tryz.ntmps120
 go_wp2_with (first
  | ((with_reducible refine is_box ?_);refine wl_box HF.out rfl rfl ?_;intro bx W1 HF1;replace HF:=hid HF1;clear HF1)
  | ((with_reducible refine is_load (T:=149) ?_);(refine wl_load1 (k+1) HF.out rfl (by simpa using HK.out) Tryz.underlying149 rfl rfl ?_))
  | ((with_reducible refine is_load (T:=63) ?_);(refine wl_load 0 HF.out rfl rfl Tryz.underlying63 rfl Fr.tyI HL2.out ?_))
  | ((refine(HOK.out _ _ _ _ _ vs (hI _ _ HIR.out) HF.out (HF.out.rowBack HL.out)).mono ?_);rintro e W3 ⟨rfl,HF1⟩;replace HF:=hid HF1;clear HF1))
 refine bodyPost_ret (v:=.bool false) (by simp [results,Tryz.results120,go_sem];try rfl) rfl ⟨rfl,HF.out.lessR.rowLess⟩
theorem index_tyI(Kp:World→Prop)(I:List Fr.RI→Prop)(hI:∀ r R,I R→I (r::R))(f:Nat)(caps:Array Value)(hc:∀(args:Array Value) (X:World),(callFunc f args).run Tryz.prog X=.ok (.enter f args) X)(rows:List (List Da.D))(hl:∀ ds∈rows,ds.length=3)(hok:∀ ds∈rows,PrD rowV Kp I f caps ds)
  {w W:World} {g:Option Nat} {R:List Fr.RI} {Ds:List (Value × Da.D)} (b k m:Nat) (v:Value) (hR:I R) (hk:R[k]?=some (.blk b [.func (.func f) #[] caps])) (hd:Ds[m]?=some (v,Da.D.list 3 rows)) (h:Fr.Fm w g Kp W R Ds) :
  Calls Tryz.prog 155 #[v,.func (.func 120) #[] #[.pointer (some ⟨b,0,none⟩)]] W fun e W'=>e=.returned (.int .i64 (-1))∧Fr.Fm w g Kp W' R Ds:=by
 obtain⟨p,c,rfl,h2,hpp⟩:=h.daSlice hd
 have HF:=hid h
 have HD:=hid hd
 have HP:=hid hpp
 have HCL:=hid (fun(ds:List Da.D) hl (ho:PrD rowV Kp I f caps ds) (W:World) (vs:List Value) (h:Fr.Fm w g Kp W R Ds) hr=>clos_tyI Kp I hI f caps hc ds hl ho (w:=w) (W:=W) (g:=g) (R:=R) (Ds:=Ds) b k vs hR hk h hr)
 have HOK:=hid hok
 have HLN:=hid hl
 have hl3:(rows.length:Int)≤9223372036854775807:=by omega
 clear h hd hpp hok hc hR hk hl
 go_enter Tryz.func155,Tryz.ntmps155
 go_wp2
 go_loopg [8] rows.length (fun gm v8 wr=>∃ k:Nat,gm=rows.length - k∧k≤rows.length∧v8=.int .i64 k∧RowKit.Hid (Fr.Fm w g Kp wr R Ds))
 case atStart=>exact⟨0,by simp,by omega,rfl,HF⟩
 case round =>
  clear HF
  obtain⟨j,hg,hj,rfl,HF⟩:=hrel
  by_cases hlt:j<rows.length
  ·obtain⟨bx,off,rfl⟩:=HP.out (by omega)
   have hki:(j:Int)<(rows.length:Int):=by omega
   have hk0:(0:Int)≤(j:Int):=by omega
   have hk1:(j:Int)≤9223372036854775807:=by omega
   have hmem:rows[j]∈rows:=List.getElem_mem hlt
   have hi:rows[j]?=some rows[j]:=List.getElem?_eq_getElem hlt
   generalize rows[j]=ds at hmem hi
   have HO1:=hid (HOK.out _ hmem)
   have HLd:=hid (HLN.out _ hmem)
   clear hmem
   go_wp2_with (first
    | ((with_reducible refine is_load (T:=63) ?_);(refine wl_loadAt m HF.out HD.out j rfl (by first|rfl|omega) hi Tryz.underlying63 rfl Fr.tyI rfl ?_);intro vs hrow;have HRW:=hid hrow;clear hrow)
    | (go_at_call 120;(with_reducible refine(HCL.out _ HLd.out HO1.out _ _ HF.out HRW.out).mono ?_);rintro e W3 ⟨rfl,HF1⟩;replace HF:=hid HF1;clear HF1))
   go_roundg (rows.length - (j+1))
   case rel=>exact⟨j+1,rfl,hlt,by simp,HF⟩
   case measure=>omega
  ·have hki:¬(j:Int)<(rows.length:Int):=by omega
   go_wp2
   refine bodyPost_ret (v:=.int .i64 (-1)) (by simp [results,Tryz.results155,go_sem];try rfl) rfl ⟨rfl,HF.out⟩
theorem all_tyI:AllD rowV 3 82:=by
 intro Kp I hI f caps hc rows hl hok w W g R Ds m v hR hd h
 have HF:=hid h
 have HIX:=hid (fun(W:World) (R:List Fr.RI) (b k:Nat) hR hk hd h=>index_tyI Kp I hI f caps hc rows hl hok (w:=w) (W:=W) (g:=g) (R:=R) (Ds:=Ds) b k m v hR hk hd h)
 have HCT:RowKit.Hid (∀(W:World) (R:List Fr.RI) (b k:Nat),I R→R[k]?=some (.blk b [.func (.func f) #[] caps])→Ds[m]?=some (v,Da.D.list 3 rows)→Fr.Fm w g Kp W R Ds →
   Calls Tryz.prog 119 #[v,.func (.func 120) #[] #[.pointer (some ⟨b,0,none⟩)]] W fun e W'=>e=.returned (.bool false)∧Fr.Fm w g Kp W' R Ds):=hid (by
  intro W R b k hR hk hd h
  have HX:=hid (HIX.out _ _ _ _ hR hk hd h)
  clear h HIX hc hok HF
  go_enter Tryz.func119,Tryz.ntmps119
  go_wp2_with (first
   | (go_at_call 155;(with_reducible refine HX.out.mono ?_);rintro e W3 ⟨rfl,HF1⟩;have HF:=hid HF1;clear HF1))
  refine bodyPost_ret (v:=.bool false) (by simp [results,Tryz.results119,go_sem];try rfl) rfl ⟨rfl,HF.out⟩)
 have HIR:=hid hR
 have HD:=hid hd
 clear h hR hd HIX hc hok
 go_enter Tryz.func82,Tryz.ntmps82
 go_wp2_with (first
  | ((with_reducible refine is_box ?_);refine wl_box HF.out rfl rfl ?_;intro bx W1 HF1;replace HF:=hid HF1;clear HF1)
  | (go_at_call 119;(with_reducible refine(HCT.out _ _ _ 0 (hI _ _ HIR.out) rfl HD.out HF.out).mono ?_);rintro e W3 ⟨rfl,HF1⟩;replace HF:=hid HF1;clear HF1))
 refine bodyPost_ret (v:=.bool true) (by simp [results,Tryz.results82,go_sem];try rfl) rfl ⟨rfl,HF.out.lessR⟩
theorem clos_tyPr(Kp:World→Prop)(I:List Fr.RI→Prop)(hI:∀ r R,I R→I (r::R))(f:Nat)(caps:Array Value)(hc:∀(args:Array Value) (X:World),(callFunc f args).run Tryz.prog X=.ok (.enter f args) X)(ds:List Da.D)(hl:ds.length=10)(hok:PrD rowV Kp I f caps ds)
  {w W:World} {g:Option Nat} {R:List Fr.RI} {Ds:List (Value × Da.D)} (b k:Nat) (vs:List Value) (hR:I R) (hk:R[k]?=some (.blk b [.func (.func f) #[] caps])) (h:Fr.Fm w g Kp W R Ds) (hr:Da.Row W (Fr.Off w.heap.size R) vs ds) :
  Calls Tryz.prog 130 #[.agg vs.toArray,.pointer (some ⟨b,0,none⟩)] W fun e W'=>e=.returned (.bool false)∧Fr.Fm w g Kp W' R Ds:=by
 have HK:=hid hk
 have HIR:=hid hR
 have HOK:=hid hok
 have HF:=hid (h.rowPlus hr)
 have HL:=hid hr.1
 have HL2:=hid (hr.1.trans hl)
 clear h hk hR hok hl hr
 go_enter Tryz.func130,Tryz.ntmps130
 go_wp2_with (first
  | ((with_reducible refine is_box ?_);refine wl_box HF.out rfl rfl ?_;intro bx W1 HF1;replace HF:=hid HF1;clear HF1)
  | ((with_reducible refine is_load (T:=152) ?_);(refine wl_load1 (k+1) HF.out rfl (by simpa using HK.out) Tryz.underlying152 rfl rfl ?_))
  | ((with_reducible refine is_load (T:=67) ?_);(refine wl_load 0 HF.out rfl rfl Tryz.underlying67 rfl Fr.tyPr HL2.out ?_))
  | ((refine(HOK.out _ _ _ _ _ vs (hI _ _ HIR.out) HF.out (HF.out.rowBack HL.out)).mono ?_);rintro e W3 ⟨rfl,HF1⟩;replace HF:=hid HF1;clear HF1))
 refine bodyPost_ret (v:=.bool false) (by simp [results,Tryz.results130,go_sem];try rfl) rfl ⟨rfl,HF.out.lessR.rowLess⟩
theorem index_tyPr(Kp:World→Prop)(I:List Fr.RI→Prop)(hI:∀ r R,I R→I (r::R))(f:Nat)(caps:Array Value)(hc:∀(args:Array Value) (X:World),(callFunc f args).run Tryz.prog X=.ok (.enter f args) X)(rows:List (List Da.D))(hl:∀ ds∈rows,ds.length=10)(hok:∀ ds∈rows,PrD rowV Kp I f caps ds)
  {w W:World} {g:Option Nat} {R:List Fr.RI} {Ds:List (Value × Da.D)} (b k m:Nat) (v:Value) (hR:I R) (hk:R[k]?=some (.blk b [.func (.func f) #[] caps])) (hd:Ds[m]?=some (v,Da.D.list 10 rows)) (h:Fr.Fm w g Kp W R Ds) :
  Calls Tryz.prog 169 #[v,.func (.func 130) #[] #[.pointer (some ⟨b,0,none⟩)]] W fun e W'=>e=.returned (.int .i64 (-1))∧Fr.Fm w g Kp W' R Ds:=by
 obtain⟨p,c,rfl,h2,hpp⟩:=h.daSlice hd
 have HF:=hid h
 have HD:=hid hd
 have HP:=hid hpp
 have HCL:=hid (fun(ds:List Da.D) hl (ho:PrD rowV Kp I f caps ds) (W:World) (vs:List Value) (h:Fr.Fm w g Kp W R Ds) hr=>clos_tyPr Kp I hI f caps hc ds hl ho (w:=w) (W:=W) (g:=g) (R:=R) (Ds:=Ds) b k vs hR hk h hr)
 have HOK:=hid hok
 have HLN:=hid hl
 have hl3:(rows.length:Int)≤9223372036854775807:=by omega
 clear h hd hpp hok hc hR hk hl
 go_enter Tryz.func169,Tryz.ntmps169
 go_wp2
 go_loopg [8] rows.length (fun gm v8 wr=>∃ k:Nat,gm=rows.length - k∧k≤rows.length∧v8=.int .i64 k∧RowKit.Hid (Fr.Fm w g Kp wr R Ds))
 case atStart=>exact⟨0,by simp,by omega,rfl,HF⟩
 case round =>
  clear HF
  obtain⟨j,hg,hj,rfl,HF⟩:=hrel
  by_cases hlt:j<rows.length
  ·obtain⟨bx,off,rfl⟩:=HP.out (by omega)
   have hki:(j:Int)<(rows.length:Int):=by omega
   have hk0:(0:Int)≤(j:Int):=by omega
   have hk1:(j:Int)≤9223372036854775807:=by omega
   have hmem:rows[j]∈rows:=List.getElem_mem hlt
   have hi:rows[j]?=some rows[j]:=List.getElem?_eq_getElem hlt
   generalize rows[j]=ds at hmem hi
   have HO1:=hid (HOK.out _ hmem)
   have HLd:=hid (HLN.out _ hmem)
   clear hmem
   go_wp2_with (first
    | ((with_reducible refine is_load (T:=67) ?_);(refine wl_loadAt m HF.out HD.out j rfl (by first|rfl|omega) hi Tryz.underlying67 rfl Fr.tyPr rfl ?_);intro vs hrow;have HRW:=hid hrow;clear hrow)
    | (go_at_call 130;(with_reducible refine(HCL.out _ HLd.out HO1.out _ _ HF.out HRW.out).mono ?_);rintro e W3 ⟨rfl,HF1⟩;replace HF:=hid HF1;clear HF1))
   go_roundg (rows.length - (j+1))
   case rel=>exact⟨j+1,rfl,hlt,by simp,HF⟩
   case measure=>omega
  ·have hki:¬(j:Int)<(rows.length:Int):=by omega
   go_wp2
   refine bodyPost_ret (v:=.int .i64 (-1)) (by simp [results,Tryz.results169,go_sem];try rfl) rfl ⟨rfl,HF.out⟩
theorem all_tyPr:AllD rowV 10 85:=by
 intro Kp I hI f caps hc rows hl hok w W g R Ds m v hR hd h
 have HF:=hid h
 have HIX:=hid (fun(W:World) (R:List Fr.RI) (b k:Nat) hR hk hd h=>index_tyPr Kp I hI f caps hc rows hl hok (w:=w) (W:=W) (g:=g) (R:=R) (Ds:=Ds) b k m v hR hk hd h)
 have HCT:RowKit.Hid (∀(W:World) (R:List Fr.RI) (b k:Nat),I R→R[k]?=some (.blk b [.func (.func f) #[] caps])→Ds[m]?=some (v,Da.D.list 10 rows)→Fr.Fm w g Kp W R Ds →
   Calls Tryz.prog 129 #[v,.func (.func 130) #[] #[.pointer (some ⟨b,0,none⟩)]] W fun e W'=>e=.returned (.bool false)∧Fr.Fm w g Kp W' R Ds):=hid (by
  intro W R b k hR hk hd h
  have HX:=hid (HIX.out _ _ _ _ hR hk hd h)
  clear h HIX hc hok HF
  go_enter Tryz.func129,Tryz.ntmps129
  go_wp2_with (first
   | (go_at_call 169;(with_reducible refine HX.out.mono ?_);rintro e W3 ⟨rfl,HF1⟩;have HF:=hid HF1;clear HF1))
  refine bodyPost_ret (v:=.bool false) (by simp [results,Tryz.results129,go_sem];try rfl) rfl ⟨rfl,HF.out⟩)
 have HIR:=hid hR
 have HD:=hid hd
 clear h hR hd HIX hc hok
 go_enter Tryz.func85,Tryz.ntmps85
 go_wp2_with (first
  | ((with_reducible refine is_box ?_);refine wl_box HF.out rfl rfl ?_;intro bx W1 HF1;replace HF:=hid HF1;clear HF1)
  | (go_at_call 129;(with_reducible refine(HCT.out _ _ _ 0 (hI _ _ HIR.out) rfl HD.out HF.out).mono ?_);rintro e W3 ⟨rfl,HF1⟩;replace HF:=hid HF1;clear HF1))
 refine bodyPost_ret (v:=.bool true) (by simp [results,Tryz.results85,go_sem];try rfl) rfl ⟨rfl,HF.out.lessR⟩
end Go.Proofs.YtlhmkfcbldghfaaGreatDoor
