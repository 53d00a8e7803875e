/- The walks of the document's sameConsts,sameTypeDecls,sameVars at what is alike. Conditions: the lists are told;places are asked of empty lists alone. -/
import Derived.Test.YtlhmkfcbldghfaaGreatDoorSmF
namespace Go.Proofs.YtlhmkfcbldghfaaGreatDoor
set_option linter.all false
open Go.Lib (hid)
set_option maxRecDepth 1000000
set_option maxHeartbeats 16000000
open Go.RowKit
open Fr (tkB tkM wT wN wE)
open Fr (exec_row is_bool is_int is_nil is_str row13 tyE tyT)
open Tr (cnD exD fdD fdDs tyD)
namespace Fr
open Da Tr
theorem ow_lit1B {P : Program} {Q : Exit → Act → World → Prop} {K : Act → World → Prop} {a : Act} {w W : World} {g : Option Nat} {Kp : World → Prop} {R : List RI} {Ds : List (Value × D)} {o : Oper} (h : Fm w g Kp W R Ds) {T e : TypeId} {z : List Value} {bytes : Nat} (hu : P.underlying T = some (.slice e)) (hT : TyIs P e z bytes) (hz : z.length ≤ 1000) (hz0 : 0 < z.length) {x : Operand} (ho : o.op = .buildSlice T 1 #[(0,x)]) {cs : List Value} {xv : Value} (hxv : evalQ a x = some xv) (hx' : xv.cells = cs.toArray) (hl : cs.length = z.length) {row : List D} (hr : Row W (Off w.heap.size R) cs row)
  (hK : ∀ (b : Nat) (W' : World),Below W.heap.size W W' → Fm w g Kp W' R ((.slice (some ⟨b,0,none⟩) 1 1,.list z.length [row]) :: Ds) → K (a.put o.dst (.slice (some ⟨b,0,none⟩) 1 1)) W') : o.wp P a W K Q:=by
 have hx : (a.eval x).cells = cs.toArray:=by rw [evalQ_eval hxv];exact hx'
 have hrun:=run_lit (P:=P) (W:=W) T e 1 #[(0,a.eval x)] cs z bytes hu hT hz hz0 (by decide) (by decide) (fill_one z.length (a.eval x) cs _ hx hl (by simp))
 unfold Oper.wp execOp
 simp only [ho,Sem.run_bind,List.map_toArray,List.map_cons,List.map_nil,hrun,Result.andThen_ok,Sem.run_pure]
 exact hK _ _ ((Below.refl _ _).alloc (Nat.le_refl _) _) (h.lit cs e 1 z.length [row] (by rw [hl,Nat.one_mul]) rfl (fun r hr' => by simp at hr';subst hr';rw [← hr.1,hl]) (by simpa using hr) (by decide))
end Fr
abbrev RsCn (xs : List (List UInt8 × Bool × Tr.Ex × Int)) : Prop:=∀ {w W : World} {g : Option Nat} {Kp : World → Prop} {R : List Fr.RI} {Ds : List (Value × Da.D)} (ys : List (List UInt8 × Bool × Tr.Ex × Int)) (pl : Bool) (m n : Nat) (v u : Value) (_ : Ds[m]? = some (v,Da.D.list 9 (xs.map cnD))) (_ : Ds[n]? = some (u,Da.D.list 9 (ys.map cnD))) (_ : Tr.cnsS pl xs ys = true) (_ : pl = true → xs = []) (_ : Fr.Fm w g Kp W R Ds),
  Calls Tryz.prog 20 #[v,u,.bool pl] W fun e W' => e = .returned (.bool true) ∧ Fr.Fm w g Kp W' R Ds
abbrev RsTd (xs : List (List UInt8 × Bool × Tr.Ty × Int)) : Prop:=∀ {w W : World} {g : Option Nat} {Kp : World → Prop} {R : List Fr.RI} {Ds : List (Value × Da.D)} (ys : List (List UInt8 × Bool × Tr.Ty × Int)) (pl : Bool) (m n : Nat) (v u : Value) (_ : Ds[m]? = some (v,Da.D.list 13 (fdDs xs))) (_ : Ds[n]? = some (u,Da.D.list 13 (fdDs ys))) (_ : Tr.fdsS pl xs ys = true) (_ : pl = true → xs = []) (_ : Fr.Fm w g Kp W R Ds),
  Calls Tryz.prog 21 #[v,u,.bool pl] W fun e W' => e = .returned (.bool true) ∧ Fr.Fm w g Kp W' R Ds
abbrev RsVs (xs : List (List UInt8 × Bool × Tr.Ty × Int)) : Prop:=∀ {w W : World} {g : Option Nat} {Kp : World → Prop} {R : List Fr.RI} {Ds : List (Value × Da.D)} (ys : List (List UInt8 × Bool × Tr.Ty × Int)) (pl : Bool) (m n : Nat) (v u : Value) (_ : Ds[m]? = some (v,Da.D.list 13 (fdDs xs))) (_ : Ds[n]? = some (u,Da.D.list 13 (fdDs ys))) (_ : Tr.fdsS pl xs ys = true) (_ : pl = true → xs = []) (_ : Fr.Fm w g Kp W R Ds),
  Calls Tryz.prog 22 #[v,u,.bool pl] W fun e W' => e = .returned (.bool true) ∧ Fr.Fm w g Kp W' R Ds
theorem rconsts_all (xs : List (List UInt8 × Bool × Tr.Ex × Int)) : RsCn xs:=by
 intro w W g Kp R Ds ys pl m n v u hd hu hs hp h
 have hlen : xs.length = ys.length:=by
  by_cases he : xs.length = ys.length
  ·exact he
  ·rw [Tr.cnsS_len he] at hs;cases hs
 obtain ⟨p,c,rfl,hl,hpp⟩:=h.daSlice hd
 obtain ⟨p2,c2,rfl,hl2,hpp2⟩:=h.daSlice hu
 rw [List.length_map] at hl hpp hd hl2 hpp2 hu ⊢
 rw [List.length_map,← hlen]
 rw [← hlen] at hl2 hpp2 hu
 have HF:=hid h
 have HD:=hid hd
 have HU:=hid hu
 have HP:=hid hpp
 have HP2:=hid hpp2
 have HS:=hid hs
 have HPL:=hid hp
 have HLN:=hid hlen
 have hl3 : (xs.length : Int) ≤ 9223372036854775807:=by omega
 clear h hd hu hpp hpp2 hs hp hlen hl2
 go_enter Tryz.func20,Tryz.ntmps20
 go_wp2
 go_loopg [7] xs.length (fun gm v7 wr => ∃ k : Nat,gm = xs.length - k ∧ k ≤ xs.length ∧ v7 = .int .i64 k ∧ RowKit.Hid (Tr.cnsS pl (xs.drop k) (ys.drop k) = true) ∧ RowKit.Hid (Fr.Fm w g Kp wr R Ds))
 case atStart => exact ⟨0,by simp,by omega,rfl,HS,HF⟩
 case round =>
  clear HF HS
  obtain ⟨k,hg,hk,rfl,HS,HF⟩:=hrel
  by_cases hlt : k < xs.length
  ·obtain ⟨b,off,rfl⟩:=HP.out (by omega)
   obtain ⟨b2,off2,rfl⟩:=HP2.out (by omega)
   have hki : (k : Int) < (xs.length : Int):=by omega
   have hk0 : (0 : Int) ≤ (k : Int):=by omega
   have hk1 : (k : Int) ≤ 9223372036854775807:=by omega
   have hlt2 : k < ys.length:=by have:=HLN.out;omega
   obtain rfl : pl = false:=by
    cases pl with
    | false => rfl
    | true => have:=HPL.out rfl;rw [this] at hlt;simp at hlt
   have hs:=HS.out
   rw [List.drop_eq_getElem_cons hlt,List.drop_eq_getElem_cons hlt2] at hs
   have hi : (xs.map cnD)[k]? = some (cnD xs[k]):=by simp [hlt]
   have hi2 : (ys.map cnD)[k]? = some (cnD ys[k]):=by simp [hlt2]
   generalize xs[k] = x0 at hs hi
   generalize ys[k] = y0 at hs hi2
   obtain ⟨xnm,xex,⟨xk,xn,xt,xo,xa,xq⟩,xp⟩:=x0
   obtain ⟨ynm,yex,⟨yk,yn,yt,yo,ya,yq⟩,yp⟩:=y0
   unfold Tr.cnsS at hs
   simp only [Bool.and_eq_true,Bool.not_eq_true',bne_eq_false_iff_eq] at hs
   obtain ⟨⟨⟨⟨rfl,rfl⟩,-⟩,hs3⟩,hs7⟩:=hs
   have hs4 : Tr.exsS false [Tr.Ex.mk xk xn xt xo xa xq] [Tr.Ex.mk yk yn yt yo ya yq] = true:=by
    unfold Tr.exsS;rw [hs3];simp [Tr.exsS]
   replace HS:=hid hs7
   unfold cnD at hi hi2
   simp only [exD,List.cons_append,List.nil_append] at hi hi2
   obtain ⟨ca,ra,hra,hba⟩:=HF.out.rowAt HD.out k hi
   obtain ⟨cb,rb,hrb,hbb⟩:=HF.out.rowAt HU.out k hi2
   obtain ⟨p0,p1,p2,p3,p4,p5,p6,p7,p8,rfl,hp0,hp1,hp2,hp3,hp4,hp5,hp6,hp7,hp8⟩:=Fr.row9 hra;clear hra
   obtain rfl:=is_str hp0
   obtain rfl:=is_str hp4
   obtain rfl:=is_str hp5
   obtain rfl:=is_bool hp1
   obtain rfl:=is_int hp2
   obtain rfl:=is_int hp3
   obtain rfl:=is_int hp7
   obtain rfl:=is_int hp8
   clear hp0 hp1 hp2 hp3 hp4 hp5 hp7 hp8
   obtain ⟨q0,q1,q2,q3,q4,q5,q6,q7,q8,rfl,hq0,hq1,hq2,hq3,hq4,hq5,hq6,hq7,hq8⟩:=Fr.row9 hrb;clear hrb
   obtain rfl:=is_str hq0
   obtain rfl:=is_str hq4
   obtain rfl:=is_str hq5
   obtain rfl:=is_bool hq1
   obtain rfl:=is_int hq2
   obtain rfl:=is_int hq3
   obtain rfl:=is_int hq7
   obtain rfl:=is_int hq8
   clear hq0 hq1 hq2 hq3 hq4 hq5 hq7 hq8
   replace HF:=hid ((HF.out.plus hq6).plus hp6)
   have HB:=hid ((Below.refl wr.heap.size wr).drew)
   clear hs7 hs3 hp6 hq6
   go_wp2
   replace HF:=hid HF.out.drew
   refine wp_region_G (UpTo 54 (fun X => Below wr.heap.size wr X)) 57 (by kernel_rfl) (by kernel_rfl) (fun _ => HB.out) (fun _ hS => ?_)
   generalize World.drew _ = W1 at HF HB hS ⊢
   refine tkB (n:=57) (is:=[0,1,2,3,4,5,6,7,8,9,10,11,12,13,14,15,16,17,18,19,20,21,22,23,24,25,26,27,28,29,30,31,32,33,34,35,36,37,38,39,40,41,42,43,44,45,47,48,49,50,51,53]) [[40,26,24,11,10,4,3,2,0],[40,26,24,11,10,4,3,2,1],[40,26,24,11,10,4,3,2],[40,26,24,11,10,4,3],[40,26,24,11,10,4],[40,26,24,11,10,9,8,7,5],[40,26,24,11,10,9,8,7,6],[40,26,24,11,10,9,8,7],[40,26,24,11,10,9,8],[40,26,24,11,10,9],[40,26,24,11,10],[40,26,24,11],[40,26,24,23,22,16,15,14,12],[40,26,24,23,22,16,15,14,13],[40,26,24,23,22,16,15,14],[40,26,24,23,22,16,15],[40,26,24,23,22,16],[40,26,24,23,22,21,20,19,17],[40,26,24,23,22,21,20,19,18],[40,26,24,23,22,21,20,19],[40,26,24,23,22,21,20],[40,26,24,23,22,21],[40,26,24,23,22],[40,26,24,23],[40,26,24],[40,26,25],[40,26],[40,39,38,37,31,30,29,27],[40,39,38,37,31,30,29,28],[40,39,38,37,31,30,29],[40,39,38,37,31,30],[40,39,38,37,31],[40,39,38,37,36,35,34,32],[40,39,38,37,36,35,34,33],[40,39,38,37,36,35,34],[40,39,38,37,36,35],[40,39,38,37,36],[40,39,38,37],[40,39,38],[40,39],[40],[46,45,44,43,41],[46,45,44,43,42],[46,45,44,43],[46,45,44],[46,45],[52,51,50,49,47],[52,51,50,49,48],[52,51,50,49],[52,51,50],[52,51],[53]] (k:=52) rfl (by kernel_rfl) (fun d _ _ _ _ h => by cases d <;> exact h) hS ?_
   repeat (first | (refine wT (i:=4) (v:=.string ⟨xnm.toArray⟩) rfl (by rfl) (fun X xb => ?_) ?_;(focus (have y:=(xb.cell (p:=⟨b,off + k * 9 + 0,none⟩) hba).trans (ra 0 _ rfl);clear xb;try simp only [Nat.add_zero] at y;go_simp;try with_reducible rfl))) | (refine wT (i:=9) (v:=.string ⟨xnm.toArray⟩) rfl (by rfl) (fun X xb => ?_) ?_;(focus (have y:=(xb.cell (p:=⟨b2,off2 + k * 9 + 0,none⟩) hbb).trans (rb 0 _ rfl);clear xb;try simp only [Nat.add_zero] at y;go_simp;try with_reducible rfl))) | (refine wT (i:=16) (v:=.bool xex) rfl (by rfl) (fun X xb => ?_) ?_;(focus (have y:=(xb.cell (p:=⟨b,off + k * 9 + 1,none⟩) hba).trans (ra 1 _ rfl);clear xb;go_simp;try with_reducible rfl))) | (refine wT (i:=21) (v:=.bool xex) rfl (by rfl) (fun X xb => ?_) ?_;(focus (have y:=(xb.cell (p:=⟨b2,off2 + k * 9 + 1,none⟩) hbb).trans (rb 1 _ rfl);clear xb;go_simp;try with_reducible rfl))) | (refine wT (i:=45) (v:=.agg #[.int .i64 xk,.int .i64 xn,.string ⟨xt.toArray⟩,.string ⟨xo.toArray⟩,p6,.int .i64 xq]) rfl (by rfl) (fun X xb => ?_) ?_;(focus (exact exec_row rfl rfl (Fr.range_sub ra 2 rfl) xb hba Tryz.underlying53 rfl tyE rfl))) | (refine wT (i:=51) (v:=.agg #[.int .i64 yk,.int .i64 yn,.string ⟨yt.toArray⟩,.string ⟨yo.toArray⟩,q6,.int .i64 yq]) rfl (by rfl) (fun X xb => ?_) ?_;(focus (exact exec_row rfl rfl (Fr.range_sub rb 2 rfl) xb hbb Tryz.underlying53 rfl tyE rfl))) | (refine wN rfl (by rfl) ?_) | (refine wT (v:=?_) rfl (by rfl) (fun X hX => ?_) ?_;rotate_left 1;(focus (clear hX;go_simp;try with_reducible rfl))));try simp only [Act.put,zA,z0,z1]
   refine wE fun hS => ?_
   refine wpAnyG_ready (rs:=[46,52]) (by kernel_rfl) (by simp) ?_
   refine AllReadyG.cons rfl (fun K hK => ?_) (AllReadyG.cons rfl (fun K hK => ?_) AllReadyG.nil)
   ·skip
    refine (if_pos (by rfl)).mpr ?_
    refine Fr.ow_lit1B HF.out Tryz.underlying47 tyE (by simp) (by simp) rfl rfl rfl rfl (row:=exD (.mk xk xn xt xo xa xq)) ?_ ?_
    focus (simp only [exD];(repeat' (first | exact Da.row_nil _ _ | exact Da.Is.int _ | exact Da.Is.str _ | exact Da.Is.bool _ | exact is_nil _ | (refine HF.out.isM ?_;simp;done) | refine Da.row_cons ?_ ?_)))
    intro bl W2 hb HF1
    replace HB:=hid (HB.out.trans (hb.mono HB.out.size));replace HF:=hid HF1;clear hb HF1
    refine hK.out _ _ (fun _ => HB.out) fun hS => ?_;clear hK K
    try simp only [Act.put,zA,z0,z1]
    refine rd1 (i:=52) (by kernel_rfl) (.cons rfl (fun K hK => ?_) .nil)
    refine (if_pos (by rfl)).mpr ?_
    refine Fr.ow_lit1B HF.out Tryz.underlying47 tyE (by simp) (by simp) rfl rfl rfl rfl (row:=exD (.mk yk yn yt yo ya yq)) ?_ ?_
    focus (simp only [exD];(repeat' (first | exact Da.row_nil _ _ | exact Da.Is.int _ | exact Da.Is.str _ | exact Da.Is.bool _ | exact is_nil _ | (refine HF.out.isM ?_;simp;done) | refine Da.row_cons ?_ ?_)))
    intro bl W2 hb HF1
    replace HB:=hid (HB.out.trans (hb.mono HB.out.size));replace HF:=hid HF1;clear hb HF1
    refine hK.out _ _ (fun _ => HB.out) fun hS => ?_;clear hK K
    try simp only [Act.put,zA,z0,z1]
    refine rd1 (i:=54) (by kernel_rfl) (.cons rfl (fun K hK => ?_) .nil)
    go_simp
    (with_reducible refine (rexprs_all [Tr.Ex.mk xk xn xt xo xa xq] [Tr.Ex.mk yk yn yt yo ya yq] false 1 0 _ _ rfl rfl hs4 (by simp) HF.out).mono ?_);rintro e W3 ⟨rfl,HF1⟩;replace HF:=hid HF1;clear HF1
    go_simp
    refine hK.out _ _ (fun h => absurd h (by simp [Fr.setAll])) fun hS => ?_;clear hK K
    try simp only [Act.put,zA,z0,z1]
    refine tkM (n:=57) (is:=[55,56]) (k:=2) rfl (by kernel_rfl) (fun d _ _ _ _ h => by cases d <;> exact h) hS ?_
    repeat (first | (refine wT (v:=?_) rfl (by rfl) (fun X hX => ?_) ?_;rotate_left 1;(focus (clear hX;go_simp;try with_reducible rfl))));try simp only [Act.put,zA,z0,z1]
    refine wE fun hS => ?_
    refine wpAnyG_done (by kernel_rfl) ?_ _;clear hS
    go_wp2
    go_roundg (xs.length - (k + 1))
    case rel => exact ⟨k + 1,rfl,hlt,by simp,HS,hid HF.out.less.less.less.less⟩
    case measure => omega
   ·skip
    refine (if_pos (by rfl)).mpr ?_
    refine Fr.ow_lit1B HF.out Tryz.underlying47 tyE (by simp) (by simp) rfl rfl rfl rfl (row:=exD (.mk yk yn yt yo ya yq)) ?_ ?_
    focus (simp only [exD];(repeat' (first | exact Da.row_nil _ _ | exact Da.Is.int _ | exact Da.Is.str _ | exact Da.Is.bool _ | exact is_nil _ | (refine HF.out.isM ?_;simp;done) | refine Da.row_cons ?_ ?_)))
    intro bl W2 hb HF1
    replace HB:=hid (HB.out.trans (hb.mono HB.out.size));replace HF:=hid HF1;clear hb HF1
    refine hK.out _ _ (fun _ => HB.out) fun hS => ?_;clear hK K
    try simp only [Act.put,zA,z0,z1]
    refine rd1 (i:=46) (by kernel_rfl) (.cons rfl (fun K hK => ?_) .nil)
    refine (if_pos (by rfl)).mpr ?_
    refine Fr.ow_lit1B HF.out Tryz.underlying47 tyE (by simp) (by simp) rfl rfl rfl rfl (row:=exD (.mk xk xn xt xo xa xq)) ?_ ?_
    focus (simp only [exD];(repeat' (first | exact Da.row_nil _ _ | exact Da.Is.int _ | exact Da.Is.str _ | exact Da.Is.bool _ | exact is_nil _ | (refine HF.out.isM ?_;simp;done) | refine Da.row_cons ?_ ?_)))
    intro bl W2 hb HF1
    replace HB:=hid (HB.out.trans (hb.mono HB.out.size));replace HF:=hid HF1;clear hb HF1
    refine hK.out _ _ (fun _ => HB.out) fun hS => ?_;clear hK K
    try simp only [Act.put,zA,z0,z1]
    refine rd1 (i:=54) (by kernel_rfl) (.cons rfl (fun K hK => ?_) .nil)
    go_simp
    (with_reducible refine (rexprs_all [Tr.Ex.mk xk xn xt xo xa xq] [Tr.Ex.mk yk yn yt yo ya yq] false 0 1 _ _ rfl rfl hs4 (by simp) HF.out).mono ?_);rintro e W3 ⟨rfl,HF1⟩;replace HF:=hid HF1;clear HF1
    go_simp
    refine hK.out _ _ (fun h => absurd h (by simp [Fr.setAll])) fun hS => ?_;clear hK K
    try simp only [Act.put,zA,z0,z1]
    refine tkM (n:=57) (is:=[55,56]) (k:=2) rfl (by kernel_rfl) (fun d _ _ _ _ h => by cases d <;> exact h) hS ?_
    repeat (first | (refine wT (v:=?_) rfl (by rfl) (fun X hX => ?_) ?_;rotate_left 1;(focus (clear hX;go_simp;try with_reducible rfl))));try simp only [Act.put,zA,z0,z1]
    refine wE fun hS => ?_
    refine wpAnyG_done (by kernel_rfl) ?_ _;clear hS
    go_wp2
    go_roundg (xs.length - (k + 1))
    case rel => exact ⟨k + 1,rfl,hlt,by simp,HS,hid HF.out.less.less.less.less⟩
    case measure => omega
  ·have hki : ¬ (k : Int) < (xs.length : Int):=by omega
   go_wp2
   refine bodyPost_ret (v:=.bool true) (by simp [results,Tryz.results20,go_sem];try rfl) rfl ⟨rfl,HF.out⟩
theorem rtdecls_all (xs : List (List UInt8 × Bool × Tr.Ty × Int)) : RsTd xs:=by
 intro w W g Kp R Ds ys pl m n v u hd hu hs hp h
 have hlen : xs.length = ys.length:=by
  by_cases he : xs.length = ys.length
  ·exact he
  ·rw [Tr.fdsS_len he] at hs;cases hs
 obtain ⟨p,c,rfl,hl,hpp⟩:=h.daSlice hd
 obtain ⟨p2,c2,rfl,hl2,hpp2⟩:=h.daSlice hu
 rw [Fr.fdDs_len'] at hl hpp hd hl2 hpp2 hu ⊢
 rw [Fr.fdDs_len',← hlen]
 rw [← hlen] at hl2 hpp2 hu
 have HF:=hid h
 have HD:=hid hd
 have HU:=hid hu
 have HP:=hid hpp
 have HP2:=hid hpp2
 have HS:=hid hs
 have HPL:=hid hp
 have HLN:=hid hlen
 have hl3 : (xs.length : Int) ≤ 9223372036854775807:=by omega
 clear h hd hu hpp hpp2 hs hp hlen hl2
 go_enter Tryz.func21,Tryz.ntmps21
 go_wp2
 go_loopg [7] xs.length (fun gm v7 wr => ∃ k : Nat,gm = xs.length - k ∧ k ≤ xs.length ∧ v7 = .int .i64 k ∧ RowKit.Hid (Tr.fdsS pl (xs.drop k) (ys.drop k) = true) ∧ RowKit.Hid (Fr.Fm w g Kp wr R Ds))
 case atStart => exact ⟨0,by simp,by omega,rfl,HS,HF⟩
 case round =>
  clear HF HS
  obtain ⟨k,hg,hk,rfl,HS,HF⟩:=hrel
  by_cases hlt : k < xs.length
  ·obtain ⟨b,off,rfl⟩:=HP.out (by omega)
   obtain ⟨b2,off2,rfl⟩:=HP2.out (by omega)
   have hki : (k : Int) < (xs.length : Int):=by omega
   have hk0 : (0 : Int) ≤ (k : Int):=by omega
   have hk1 : (k : Int) ≤ 9223372036854775807:=by omega
   have hlt2 : k < ys.length:=by have:=HLN.out;omega
   obtain rfl : pl = false:=by
    cases pl with
    | false => rfl
    | true => have:=HPL.out rfl;rw [this] at hlt;simp at hlt
   have hs:=HS.out
   rw [List.drop_eq_getElem_cons hlt,List.drop_eq_getElem_cons hlt2] at hs
   have hi : (fdDs xs)[k]? = some (fdD xs[k]):=by rw [Tr.fdDs_map];simp [hlt]
   have hi2 : (fdDs ys)[k]? = some (fdD ys[k]):=by rw [Tr.fdDs_map];simp [hlt2]
   generalize xs[k] = x0 at hs hi
   generalize ys[k] = y0 at hs hi2
   obtain ⟨xnm,xex,⟨xk,xm,xn,xls,xel,xba,xfs,xps,xrs,xq⟩,xp⟩:=x0
   obtain ⟨ynm,yex,⟨yk,ym,yn,yls,yel,yba,yfs,yps,yrs,yq⟩,yp⟩:=y0
   unfold Tr.fdsS at hs
   simp only [Bool.and_eq_true,Bool.not_eq_true',bne_eq_false_iff_eq] at hs
   obtain ⟨⟨⟨⟨rfl,rfl⟩,-⟩,hs3⟩,hs7⟩:=hs
   have hs4 : Tr.tysS false [Tr.Ty.mk xk xm xn xls xel xba xfs xps xrs xq] [Tr.Ty.mk yk ym yn yls yel yba yfs yps yrs yq] = true:=by
    unfold Tr.tysS;rw [hs3];simp [Tr.tysS]
   replace HS:=hid hs7
   unfold fdD at hi hi2
   simp only [tyD,List.cons_append,List.nil_append] at hi hi2
   obtain ⟨ca,ra,hra,hba⟩:=HF.out.rowAt HD.out k hi
   obtain ⟨cb,rb,hrb,hbb⟩:=HF.out.rowAt HU.out k hi2
   obtain ⟨p0,p1,p2,p3,p4,p5,p6,p7,p8,p9,p10,p11,p12,rfl,hp0,hp1,hp2,hp3,hp4,hp5,hp6,hp7,hp8,hp9,hp10,hp11,hp12⟩:=row13 hra;clear hra
   obtain rfl:=is_str hp0
   obtain rfl:=is_str hp3
   obtain rfl:=is_str hp4
   obtain rfl:=is_bool hp1
   obtain rfl:=is_int hp2
   obtain rfl:=is_int hp11
   obtain rfl:=is_int hp12
   clear hp0 hp1 hp2 hp3 hp4 hp11 hp12
   obtain ⟨q0,q1,q2,q3,q4,q5,q6,q7,q8,q9,q10,q11,q12,rfl,hq0,hq1,hq2,hq3,hq4,hq5,hq6,hq7,hq8,hq9,hq10,hq11,hq12⟩:=row13 hrb;clear hrb
   obtain rfl:=is_str hq0
   obtain rfl:=is_str hq3
   obtain rfl:=is_str hq4
   obtain rfl:=is_bool hq1
   obtain rfl:=is_int hq2
   obtain rfl:=is_int hq11
   obtain rfl:=is_int hq12
   clear hq0 hq1 hq2 hq3 hq4 hq11 hq12
   replace HF:=hid ((((((((((((HF.out.plus hq10).plus hq9).plus hq8).plus hq7).plus hq6).plus hq5).plus hp10).plus hp9).plus hp8).plus hp7).plus hp6).plus hp5)
   have HB:=hid ((Below.refl wr.heap.size wr).drew)
   clear hs7 hs3 hp5 hq5 hp6 hq6 hp7 hq7 hp8 hq8 hp9 hq9 hp10 hq10
   go_wp2
   replace HF:=hid HF.out.drew
   refine wp_region_G (UpTo 54 (fun X => Below wr.heap.size wr X)) 57 (by kernel_rfl) (by kernel_rfl) (fun _ => HB.out) (fun _ hS => ?_)
   generalize World.drew _ = W1 at HF HB hS ⊢
   refine tkB (n:=57) (is:=[0,1,2,3,4,5,6,7,8,9,10,11,12,13,14,15,16,17,18,19,20,21,22,23,24,25,26,27,28,29,30,31,32,33,34,35,36,37,38,39,40,41,42,43,44,45,47,48,49,50,51,53]) [[40,26,24,11,10,4,3,2,0],[40,26,24,11,10,4,3,2,1],[40,26,24,11,10,4,3,2],[40,26,24,11,10,4,3],[40,26,24,11,10,4],[40,26,24,11,10,9,8,7,5],[40,26,24,11,10,9,8,7,6],[40,26,24,11,10,9,8,7],[40,26,24,11,10,9,8],[40,26,24,11,10,9],[40,26,24,11,10],[40,26,24,11],[40,26,24,23,22,16,15,14,12],[40,26,24,23,22,16,15,14,13],[40,26,24,23,22,16,15,14],[40,26,24,23,22,16,15],[40,26,24,23,22,16],[40,26,24,23,22,21,20,19,17],[40,26,24,23,22,21,20,19,18],[40,26,24,23,22,21,20,19],[40,26,24,23,22,21,20],[40,26,24,23,22,21],[40,26,24,23,22],[40,26,24,23],[40,26,24],[40,26,25],[40,26],[40,39,38,37,31,30,29,27],[40,39,38,37,31,30,29,28],[40,39,38,37,31,30,29],[40,39,38,37,31,30],[40,39,38,37,31],[40,39,38,37,36,35,34,32],[40,39,38,37,36,35,34,33],[40,39,38,37,36,35,34],[40,39,38,37,36,35],[40,39,38,37,36],[40,39,38,37],[40,39,38],[40,39],[40],[46,45,44,43,41],[46,45,44,43,42],[46,45,44,43],[46,45,44],[46,45],[52,51,50,49,47],[52,51,50,49,48],[52,51,50,49],[52,51,50],[52,51],[53]] (k:=52) rfl (by kernel_rfl) (fun d _ _ _ _ h => by cases d <;> exact h) hS ?_
   repeat (first | (refine wT (i:=4) (v:=.string ⟨xnm.toArray⟩) rfl (by rfl) (fun X xb => ?_) ?_;(focus (have y:=(xb.cell (p:=⟨b,off + k * 13 + 0,none⟩) hba).trans (ra 0 _ rfl);clear xb;try simp only [Nat.add_zero] at y;go_simp;try with_reducible rfl))) | (refine wT (i:=9) (v:=.string ⟨xnm.toArray⟩) rfl (by rfl) (fun X xb => ?_) ?_;(focus (have y:=(xb.cell (p:=⟨b2,off2 + k * 13 + 0,none⟩) hbb).trans (rb 0 _ rfl);clear xb;try simp only [Nat.add_zero] at y;go_simp;try with_reducible rfl))) | (refine wT (i:=16) (v:=.bool xex) rfl (by rfl) (fun X xb => ?_) ?_;(focus (have y:=(xb.cell (p:=⟨b,off + k * 13 + 1,none⟩) hba).trans (ra 1 _ rfl);clear xb;go_simp;try with_reducible rfl))) | (refine wT (i:=21) (v:=.bool xex) rfl (by rfl) (fun X xb => ?_) ?_;(focus (have y:=(xb.cell (p:=⟨b2,off2 + k * 13 + 1,none⟩) hbb).trans (rb 1 _ rfl);clear xb;go_simp;try with_reducible rfl))) | (refine wT (i:=45) (v:=.agg #[.int .i64 xk,.string ⟨xm.toArray⟩,.string ⟨xn.toArray⟩,p5,p6,p7,p8,p9,p10,.int .i64 xq]) rfl (by rfl) (fun X xb => ?_) ?_;(focus (exact exec_row rfl rfl (Fr.range_sub ra 2 rfl) xb hba Tryz.underlying123 rfl tyT rfl))) | (refine wT (i:=51) (v:=.agg #[.int .i64 yk,.string ⟨ym.toArray⟩,.string ⟨yn.toArray⟩,q5,q6,q7,q8,q9,q10,.int .i64 yq]) rfl (by rfl) (fun X xb => ?_) ?_;(focus (exact exec_row rfl rfl (Fr.range_sub rb 2 rfl) xb hbb Tryz.underlying123 rfl tyT rfl))) | (refine wN rfl (by rfl) ?_) | (refine wT (v:=?_) rfl (by rfl) (fun X hX => ?_) ?_;rotate_left 1;(focus (clear hX;go_simp;try with_reducible rfl))));try simp only [Act.put,zA,z0,z1]
   refine wE fun hS => ?_
   refine wpAnyG_ready (rs:=[46,52]) (by kernel_rfl) (by simp) ?_
   refine AllReadyG.cons rfl (fun K hK => ?_) (AllReadyG.cons rfl (fun K hK => ?_) AllReadyG.nil)
   ·skip
    refine (if_pos (by rfl)).mpr ?_
    refine Fr.ow_lit1B HF.out Tryz.underlying65 tyT (by simp) (by simp) rfl rfl rfl rfl (row:=tyD (Tr.Ty.mk xk xm xn xls xel xba xfs xps xrs xq)) ?_ ?_
    focus (simp only [tyD];(repeat' (first | exact Da.row_nil _ _ | exact Da.Is.int _ | exact Da.Is.str _ | exact Da.Is.bool _ | exact is_nil _ | (refine HF.out.isM ?_;simp;done) | refine Da.row_cons ?_ ?_)))
    intro bl W2 hb HF1
    replace HB:=hid (HB.out.trans (hb.mono HB.out.size));replace HF:=hid HF1;clear hb HF1
    refine hK.out _ _ (fun _ => HB.out) fun hS => ?_;clear hK K
    try simp only [Act.put,zA,z0,z1]
    refine rd1 (i:=52) (by kernel_rfl) (.cons rfl (fun K hK => ?_) .nil)
    refine (if_pos (by rfl)).mpr ?_
    refine Fr.ow_lit1B HF.out Tryz.underlying65 tyT (by simp) (by simp) rfl rfl rfl rfl (row:=tyD (Tr.Ty.mk yk ym yn yls yel yba yfs yps yrs yq)) ?_ ?_
    focus (simp only [tyD];(repeat' (first | exact Da.row_nil _ _ | exact Da.Is.int _ | exact Da.Is.str _ | exact Da.Is.bool _ | exact is_nil _ | (refine HF.out.isM ?_;simp;done) | refine Da.row_cons ?_ ?_)))
    intro bl W2 hb HF1
    replace HB:=hid (HB.out.trans (hb.mono HB.out.size));replace HF:=hid HF1;clear hb HF1
    refine hK.out _ _ (fun _ => HB.out) fun hS => ?_;clear hK K
    try simp only [Act.put,zA,z0,z1]
    refine rd1 (i:=54) (by kernel_rfl) (.cons rfl (fun K hK => ?_) .nil)
    go_simp
    (with_reducible refine (rtypes_all [Tr.Ty.mk xk xm xn xls xel xba xfs xps xrs xq] [Tr.Ty.mk yk ym yn yls yel yba yfs yps yrs yq] false 1 0 _ _ rfl rfl hs4 (by simp) HF.out).mono ?_);rintro e W3 ⟨rfl,HF1⟩;replace HF:=hid HF1;clear HF1
    go_simp
    refine hK.out _ _ (fun h => absurd h (by simp [Fr.setAll])) fun hS => ?_;clear hK K
    try simp only [Act.put,zA,z0,z1]
    refine tkM (n:=57) (is:=[55,56]) (k:=2) rfl (by kernel_rfl) (fun d _ _ _ _ h => by cases d <;> exact h) hS ?_
    repeat (first | (refine wT (v:=?_) rfl (by rfl) (fun X hX => ?_) ?_;rotate_left 1;(focus (clear hX;go_simp;try with_reducible rfl))));try simp only [Act.put,zA,z0,z1]
    refine wE fun hS => ?_
    refine wpAnyG_done (by kernel_rfl) ?_ _;clear hS
    go_wp2
    go_roundg (xs.length - (k + 1))
    case rel => exact ⟨k + 1,rfl,hlt,by simp,HS,hid HF.out.less.less.less.less.less.less.less.less.less.less.less.less.less.less⟩
    case measure => omega
   ·skip
    refine (if_pos (by rfl)).mpr ?_
    refine Fr.ow_lit1B HF.out Tryz.underlying65 tyT (by simp) (by simp) rfl rfl rfl rfl (row:=tyD (Tr.Ty.mk yk ym yn yls yel yba yfs yps yrs yq)) ?_ ?_
    focus (simp only [tyD];(repeat' (first | exact Da.row_nil _ _ | exact Da.Is.int _ | exact Da.Is.str _ | exact Da.Is.bool _ | exact is_nil _ | (refine HF.out.isM ?_;simp;done) | refine Da.row_cons ?_ ?_)))
    intro bl W2 hb HF1
    replace HB:=hid (HB.out.trans (hb.mono HB.out.size));replace HF:=hid HF1;clear hb HF1
    refine hK.out _ _ (fun _ => HB.out) fun hS => ?_;clear hK K
    try simp only [Act.put,zA,z0,z1]
    refine rd1 (i:=46) (by kernel_rfl) (.cons rfl (fun K hK => ?_) .nil)
    refine (if_pos (by rfl)).mpr ?_
    refine Fr.ow_lit1B HF.out Tryz.underlying65 tyT (by simp) (by simp) rfl rfl rfl rfl (row:=tyD (Tr.Ty.mk xk xm xn xls xel xba xfs xps xrs xq)) ?_ ?_
    focus (simp only [tyD];(repeat' (first | exact Da.row_nil _ _ | exact Da.Is.int _ | exact Da.Is.str _ | exact Da.Is.bool _ | exact is_nil _ | (refine HF.out.isM ?_;simp;done) | refine Da.row_cons ?_ ?_)))
    intro bl W2 hb HF1
    replace HB:=hid (HB.out.trans (hb.mono HB.out.size));replace HF:=hid HF1;clear hb HF1
    refine hK.out _ _ (fun _ => HB.out) fun hS => ?_;clear hK K
    try simp only [Act.put,zA,z0,z1]
    refine rd1 (i:=54) (by kernel_rfl) (.cons rfl (fun K hK => ?_) .nil)
    go_simp
    (with_reducible refine (rtypes_all [Tr.Ty.mk xk xm xn xls xel xba xfs xps xrs xq] [Tr.Ty.mk yk ym yn yls yel yba yfs yps yrs yq] false 0 1 _ _ rfl rfl hs4 (by simp) HF.out).mono ?_);rintro e W3 ⟨rfl,HF1⟩;replace HF:=hid HF1;clear HF1
    go_simp
    refine hK.out _ _ (fun h => absurd h (by simp [Fr.setAll])) fun hS => ?_;clear hK K
    try simp only [Act.put,zA,z0,z1]
    refine tkM (n:=57) (is:=[55,56]) (k:=2) rfl (by kernel_rfl) (fun d _ _ _ _ h => by cases d <;> exact h) hS ?_
    repeat (first | (refine wT (v:=?_) rfl (by rfl) (fun X hX => ?_) ?_;rotate_left 1;(focus (clear hX;go_simp;try with_reducible rfl))));try simp only [Act.put,zA,z0,z1]
    refine wE fun hS => ?_
    refine wpAnyG_done (by kernel_rfl) ?_ _;clear hS
    go_wp2
    go_roundg (xs.length - (k + 1))
    case rel => exact ⟨k + 1,rfl,hlt,by simp,HS,hid HF.out.less.less.less.less.less.less.less.less.less.less.less.less.less.less⟩
    case measure => omega
  ·have hki : ¬ (k : Int) < (xs.length : Int):=by omega
   go_wp2
   refine bodyPost_ret (v:=.bool true) (by simp [results,Tryz.results21,go_sem];try rfl) rfl ⟨rfl,HF.out⟩
theorem rvars_all (xs : List (List UInt8 × Bool × Tr.Ty × Int)) : RsVs xs:=by
 intro w W g Kp R Ds ys pl m n v u hd hu hs hp h
 have hlen : xs.length = ys.length:=by
  by_cases he : xs.length = ys.length
  ·exact he
  ·rw [Tr.fdsS_len he] at hs;cases hs
 obtain ⟨p,c,rfl,hl,hpp⟩:=h.daSlice hd
 obtain ⟨p2,c2,rfl,hl2,hpp2⟩:=h.daSlice hu
 rw [Fr.fdDs_len'] at hl hpp hd hl2 hpp2 hu ⊢
 rw [Fr.fdDs_len',← hlen]
 rw [← hlen] at hl2 hpp2 hu
 have HF:=hid h
 have HD:=hid hd
 have HU:=hid hu
 have HP:=hid hpp
 have HP2:=hid hpp2
 have HS:=hid hs
 have HPL:=hid hp
 have HLN:=hid hlen
 have hl3 : (xs.length : Int) ≤ 9223372036854775807:=by omega
 clear h hd hu hpp hpp2 hs hp hlen hl2
 go_enter Tryz.func22,Tryz.ntmps22
 go_wp2
 go_loopg [7] xs.length (fun gm v7 wr => ∃ k : Nat,gm = xs.length - k ∧ k ≤ xs.length ∧ v7 = .int .i64 k ∧ RowKit.Hid (Tr.fdsS pl (xs.drop k) (ys.drop k) = true) ∧ RowKit.Hid (Fr.Fm w g Kp wr R Ds))
 case atStart => exact ⟨0,by simp,by omega,rfl,HS,HF⟩
 case round =>
  clear HF HS
  obtain ⟨k,hg,hk,rfl,HS,HF⟩:=hrel
  by_cases hlt : k < xs.length
  ·obtain ⟨b,off,rfl⟩:=HP.out (by omega)
   obtain ⟨b2,off2,rfl⟩:=HP2.out (by omega)
   have hki : (k : Int) < (xs.length : Int):=by omega
   have hk0 : (0 : Int) ≤ (k : Int):=by omega
   have hk1 : (k : Int) ≤ 9223372036854775807:=by omega
   have hlt2 : k < ys.length:=by have:=HLN.out;omega
   obtain rfl : pl = false:=by
    cases pl with
    | false => rfl
    | true => have:=HPL.out rfl;rw [this] at hlt;simp at hlt
   have hs:=HS.out
   rw [List.drop_eq_getElem_cons hlt,List.drop_eq_getElem_cons hlt2] at hs
   have hi : (fdDs xs)[k]? = some (fdD xs[k]):=by rw [Tr.fdDs_map];simp [hlt]
   have hi2 : (fdDs ys)[k]? = some (fdD ys[k]):=by rw [Tr.fdDs_map];simp [hlt2]
   generalize xs[k] = x0 at hs hi
   generalize ys[k] = y0 at hs hi2
   obtain ⟨xnm,xex,⟨xk,xm,xn,xls,xel,xba,xfs,xps,xrs,xq⟩,xp⟩:=x0
   obtain ⟨ynm,yex,⟨yk,ym,yn,yls,yel,yba,yfs,yps,yrs,yq⟩,yp⟩:=y0
   unfold Tr.fdsS at hs
   simp only [Bool.and_eq_true,Bool.not_eq_true',bne_eq_false_iff_eq] at hs
   obtain ⟨⟨⟨⟨rfl,rfl⟩,-⟩,hs3⟩,hs7⟩:=hs
   have hs4 : Tr.tysS false [Tr.Ty.mk xk xm xn xls xel xba xfs xps xrs xq] [Tr.Ty.mk yk ym yn yls yel yba yfs yps yrs yq] = true:=by
    unfold Tr.tysS;rw [hs3];simp [Tr.tysS]
   replace HS:=hid hs7
   unfold fdD at hi hi2
   simp only [tyD,List.cons_append,List.nil_append] at hi hi2
   obtain ⟨ca,ra,hra,hba⟩:=HF.out.rowAt HD.out k hi
   obtain ⟨cb,rb,hrb,hbb⟩:=HF.out.rowAt HU.out k hi2
   obtain ⟨p0,p1,p2,p3,p4,p5,p6,p7,p8,p9,p10,p11,p12,rfl,hp0,hp1,hp2,hp3,hp4,hp5,hp6,hp7,hp8,hp9,hp10,hp11,hp12⟩:=row13 hra;clear hra
   obtain rfl:=is_str hp0
   obtain rfl:=is_str hp3
   obtain rfl:=is_str hp4
   obtain rfl:=is_bool hp1
   obtain rfl:=is_int hp2
   obtain rfl:=is_int hp11
   obtain rfl:=is_int hp12
   clear hp0 hp1 hp2 hp3 hp4 hp11 hp12
   obtain ⟨q0,q1,q2,q3,q4,q5,q6,q7,q8,q9,q10,q11,q12,rfl,hq0,hq1,hq2,hq3,hq4,hq5,hq6,hq7,hq8,hq9,hq10,hq11,hq12⟩:=row13 hrb;clear hrb
   obtain rfl:=is_str hq0
   obtain rfl:=is_str hq3
   obtain rfl:=is_str hq4
   obtain rfl:=is_bool hq1
   obtain rfl:=is_int hq2
   obtain rfl:=is_int hq11
   obtain rfl:=is_int hq12
   clear hq0 hq1 hq2 hq3 hq4 hq11 hq12
   replace HF:=hid ((((((((((((HF.out.plus hq10).plus hq9).plus hq8).plus hq7).plus hq6).plus hq5).plus hp10).plus hp9).plus hp8).plus hp7).plus hp6).plus hp5)
   have HB:=hid ((Below.refl wr.heap.size wr).drew)
   clear hs7 hs3 hp5 hq5 hp6 hq6 hp7 hq7 hp8 hq8 hp9 hq9 hp10 hq10
   go_wp2
   replace HF:=hid HF.out.drew
   refine wp_region_G (UpTo 54 (fun X => Below wr.heap.size wr X)) 57 (by kernel_rfl) (by kernel_rfl) (fun _ => HB.out) (fun _ hS => ?_)
   generalize World.drew _ = W1 at HF HB hS ⊢
   refine tkB (n:=57) (is:=[0,1,2,3,4,5,6,7,8,9,10,11,12,13,14,15,16,17,18,19,20,21,22,23,24,25,26,27,28,29,30,31,32,33,34,35,36,37,38,39,40,41,42,43,44,45,47,48,49,50,51,53]) [[40,26,24,11,10,4,3,2,0],[40,26,24,11,10,4,3,2,1],[40,26,24,11,10,4,3,2],[40,26,24,11,10,4,3],[40,26,24,11,10,4],[40,26,24,11,10,9,8,7,5],[40,26,24,11,10,9,8,7,6],[40,26,24,11,10,9,8,7],[40,26,24,11,10,9,8],[40,26,24,11,10,9],[40,26,24,11,10],[40,26,24,11],[40,26,24,23,22,16,15,14,12],[40,26,24,23,22,16,15,14,13],[40,26,24,23,22,16,15,14],[40,26,24,23,22,16,15],[40,26,24,23,22,16],[40,26,24,23,22,21,20,19,17],[40,26,24,23,22,21,20,19,18],[40,26,24,23,22,21,20,19],[40,26,24,23,22,21,20],[40,26,24,23,22,21],[40,26,24,23,22],[40,26,24,23],[40,26,24],[40,26,25],[40,26],[40,39,38,37,31,30,29,27],[40,39,38,37,31,30,29,28],[40,39,38,37,31,30,29],[40,39,38,37,31,30],[40,39,38,37,31],[40,39,38,37,36,35,34,32],[40,39,38,37,36,35,34,33],[40,39,38,37,36,35,34],[40,39,38,37,36,35],[40,39,38,37,36],[40,39,38,37],[40,39,38],[40,39],[40],[46,45,44,43,41],[46,45,44,43,42],[46,45,44,43],[46,45,44],[46,45],[52,51,50,49,47],[52,51,50,49,48],[52,51,50,49],[52,51,50],[52,51],[53]] (k:=52) rfl (by kernel_rfl) (fun d _ _ _ _ h => by cases d <;> exact h) hS ?_
   repeat (first | (refine wT (i:=4) (v:=.string ⟨xnm.toArray⟩) rfl (by rfl) (fun X xb => ?_) ?_;(focus (have y:=(xb.cell (p:=⟨b,off + k * 13 + 0,none⟩) hba).trans (ra 0 _ rfl);clear xb;try simp only [Nat.add_zero] at y;go_simp;try with_reducible rfl))) | (refine wT (i:=9) (v:=.string ⟨xnm.toArray⟩) rfl (by rfl) (fun X xb => ?_) ?_;(focus (have y:=(xb.cell (p:=⟨b2,off2 + k * 13 + 0,none⟩) hbb).trans (rb 0 _ rfl);clear xb;try simp only [Nat.add_zero] at y;go_simp;try with_reducible rfl))) | (refine wT (i:=16) (v:=.bool xex) rfl (by rfl) (fun X xb => ?_) ?_;(focus (have y:=(xb.cell (p:=⟨b,off + k * 13 + 1,none⟩) hba).trans (ra 1 _ rfl);clear xb;go_simp;try with_reducible rfl))) | (refine wT (i:=21) (v:=.bool xex) rfl (by rfl) (fun X xb => ?_) ?_;(focus (have y:=(xb.cell (p:=⟨b2,off2 + k * 13 + 1,none⟩) hbb).trans (rb 1 _ rfl);clear xb;go_simp;try with_reducible rfl))) | (refine wT (i:=45) (v:=.agg #[.int .i64 xk,.string ⟨xm.toArray⟩,.string ⟨xn.toArray⟩,p5,p6,p7,p8,p9,p10,.int .i64 xq]) rfl (by rfl) (fun X xb => ?_) ?_;(focus (exact exec_row rfl rfl (Fr.range_sub ra 2 rfl) xb hba Tryz.underlying123 rfl tyT rfl))) | (refine wT (i:=51) (v:=.agg #[.int .i64 yk,.string ⟨ym.toArray⟩,.string ⟨yn.toArray⟩,q5,q6,q7,q8,q9,q10,.int .i64 yq]) rfl (by rfl) (fun X xb => ?_) ?_;(focus (exact exec_row rfl rfl (Fr.range_sub rb 2 rfl) xb hbb Tryz.underlying123 rfl tyT rfl))) | (refine wN rfl (by rfl) ?_) | (refine wT (v:=?_) rfl (by rfl) (fun X hX => ?_) ?_;rotate_left 1;(focus (clear hX;go_simp;try with_reducible rfl))));try simp only [Act.put,zA,z0,z1]
   refine wE fun hS => ?_
   refine wpAnyG_ready (rs:=[46,52]) (by kernel_rfl) (by simp) ?_
   refine AllReadyG.cons rfl (fun K hK => ?_) (AllReadyG.cons rfl (fun K hK => ?_) AllReadyG.nil)
   ·skip
    refine (if_pos (by rfl)).mpr ?_
    refine Fr.ow_lit1B HF.out Tryz.underlying65 tyT (by simp) (by simp) rfl rfl rfl rfl (row:=tyD (Tr.Ty.mk xk xm xn xls xel xba xfs xps xrs xq)) ?_ ?_
    focus (simp only [tyD];(repeat' (first | exact Da.row_nil _ _ | exact Da.Is.int _ | exact Da.Is.str _ | exact Da.Is.bool _ | exact is_nil _ | (refine HF.out.isM ?_;simp;done) | refine Da.row_cons ?_ ?_)))
    intro bl W2 hb HF1
    replace HB:=hid (HB.out.trans (hb.mono HB.out.size));replace HF:=hid HF1;clear hb HF1
    refine hK.out _ _ (fun _ => HB.out) fun hS => ?_;clear hK K
    try simp only [Act.put,zA,z0,z1]
    refine rd1 (i:=52) (by kernel_rfl) (.cons rfl (fun K hK => ?_) .nil)
    refine (if_pos (by rfl)).mpr ?_
    refine Fr.ow_lit1B HF.out Tryz.underlying65 tyT (by simp) (by simp) rfl rfl rfl rfl (row:=tyD (Tr.Ty.mk yk ym yn yls yel yba yfs yps yrs yq)) ?_ ?_
    focus (simp only [tyD];(repeat' (first | exact Da.row_nil _ _ | exact Da.Is.int _ | exact Da.Is.str _ | exact Da.Is.bool _ | exact is_nil _ | (refine HF.out.isM ?_;simp;done) | refine Da.row_cons ?_ ?_)))
    intro bl W2 hb HF1
    replace HB:=hid (HB.out.trans (hb.mono HB.out.size));replace HF:=hid HF1;clear hb HF1
    refine hK.out _ _ (fun _ => HB.out) fun hS => ?_;clear hK K
    try simp only [Act.put,zA,z0,z1]
    refine rd1 (i:=54) (by kernel_rfl) (.cons rfl (fun K hK => ?_) .nil)
    go_simp
    (with_reducible refine (rtypes_all [Tr.Ty.mk xk xm xn xls xel xba xfs xps xrs xq] [Tr.Ty.mk yk ym yn yls yel yba yfs yps yrs yq] false 1 0 _ _ rfl rfl hs4 (by simp) HF.out).mono ?_);rintro e W3 ⟨rfl,HF1⟩;replace HF:=hid HF1;clear HF1
    go_simp
    refine hK.out _ _ (fun h => absurd h (by simp [Fr.setAll])) fun hS => ?_;clear hK K
    try simp only [Act.put,zA,z0,z1]
    refine tkM (n:=57) (is:=[55,56]) (k:=2) rfl (by kernel_rfl) (fun d _ _ _ _ h => by cases d <;> exact h) hS ?_
    repeat (first | (refine wT (v:=?_) rfl (by rfl) (fun X hX => ?_) ?_;rotate_left 1;(focus (clear hX;go_simp;try with_reducible rfl))));try simp only [Act.put,zA,z0,z1]
    refine wE fun hS => ?_
    refine wpAnyG_done (by kernel_rfl) ?_ _;clear hS
    go_wp2
    go_roundg (xs.length - (k + 1))
    case rel => exact ⟨k + 1,rfl,hlt,by simp,HS,hid HF.out.less.less.less.less.less.less.less.less.less.less.less.less.less.less⟩
    case measure => omega
   ·skip
    refine (if_pos (by rfl)).mpr ?_
    refine Fr.ow_lit1B HF.out Tryz.underlying65 tyT (by simp) (by simp) rfl rfl rfl rfl (row:=tyD (Tr.Ty.mk yk ym yn yls yel yba yfs yps yrs yq)) ?_ ?_
    focus (simp only [tyD];(repeat' (first | exact Da.row_nil _ _ | exact Da.Is.int _ | exact Da.Is.str _ | exact Da.Is.bool _ | exact is_nil _ | (refine HF.out.isM ?_;simp;done) | refine Da.row_cons ?_ ?_)))
    intro bl W2 hb HF1
    replace HB:=hid (HB.out.trans (hb.mono HB.out.size));replace HF:=hid HF1;clear hb HF1
    refine hK.out _ _ (fun _ => HB.out) fun hS => ?_;clear hK K
    try simp only [Act.put,zA,z0,z1]
    refine rd1 (i:=46) (by kernel_rfl) (.cons rfl (fun K hK => ?_) .nil)
    refine (if_pos (by rfl)).mpr ?_
    refine Fr.ow_lit1B HF.out Tryz.underlying65 tyT (by simp) (by simp) rfl rfl rfl rfl (row:=tyD (Tr.Ty.mk xk xm xn xls xel xba xfs xps xrs xq)) ?_ ?_
    focus (simp only [tyD];(repeat' (first | exact Da.row_nil _ _ | exact Da.Is.int _ | exact Da.Is.str _ | exact Da.Is.bool _ | exact is_nil _ | (refine HF.out.isM ?_;simp;done) | refine Da.row_cons ?_ ?_)))
    intro bl W2 hb HF1
    replace HB:=hid (HB.out.trans (hb.mono HB.out.size));replace HF:=hid HF1;clear hb HF1
    refine hK.out _ _ (fun _ => HB.out) fun hS => ?_;clear hK K
    try simp only [Act.put,zA,z0,z1]
    refine rd1 (i:=54) (by kernel_rfl) (.cons rfl (fun K hK => ?_) .nil)
    go_simp
    (with_reducible refine (rtypes_all [Tr.Ty.mk xk xm xn xls xel xba xfs xps xrs xq] [Tr.Ty.mk yk ym yn yls yel yba yfs yps yrs yq] false 0 1 _ _ rfl rfl hs4 (by simp) HF.out).mono ?_);rintro e W3 ⟨rfl,HF1⟩;replace HF:=hid HF1;clear HF1
    go_simp
    refine hK.out _ _ (fun h => absurd h (by simp [Fr.setAll])) fun hS => ?_;clear hK K
    try simp only [Act.put,zA,z0,z1]
    refine tkM (n:=57) (is:=[55,56]) (k:=2) rfl (by kernel_rfl) (fun d _ _ _ _ h => by cases d <;> exact h) hS ?_
    repeat (first | (refine wT (v:=?_) rfl (by rfl) (fun X hX => ?_) ?_;rotate_left 1;(focus (clear hX;go_simp;try with_reducible rfl))));try simp only [Act.put,zA,z0,z1]
    refine wE fun hS => ?_
    refine wpAnyG_done (by kernel_rfl) ?_ _;clear hS
    go_wp2
    go_roundg (xs.length - (k + 1))
    case rel => exact ⟨k + 1,rfl,hlt,by simp,HS,hid HF.out.less.less.less.less.less.less.less.less.less.less.less.less.less.less⟩
    case measure => omega
  ·have hki : ¬ (k : Int) < (xs.length : Int):=by omega
   go_wp2
   refine bodyPost_ret (v:=.bool true) (by simp [results,Tryz.results22,go_sem];try rfl) rfl ⟨rfl,HF.out⟩
end Go.Proofs.YtlhmkfcbldghfaaGreatDoor
