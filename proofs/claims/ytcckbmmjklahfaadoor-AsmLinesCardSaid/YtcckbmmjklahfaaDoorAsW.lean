/- The walk of the document's Encode. Conditions: none. -/
import Derived.Test.YtcckbmmjklahfaaDoorAsV2
import Derived.Test.YtcckbmmjklahfaaDoorAsC
namespace Go.Proofs.YtcckbmmjklahfaaDoor
set_option linter.all false
open Go.RowKit
theorem rputw20 (x v : Int) (w : World) (x0 : 0 ≤ x) (x1 : x < 4294967296) (hz : x % 1048576 = 0) (v0 : 0 ≤ v) (v1 : v < 4294967296) (hs : x + v % 1048576 < 4294967296) : Calls Tryd.prog 35 #[.int .u32 x, .int .i64 0, .int .i64 20, .int .u32 v] w fun e w' => e = .returned (.int .u32 (x + v % 1048576)) ∧ ∃ g, w' = more w g :=
  mo_drew ((put_any x 0 20 v w x0 x1 v0 v1).mono fun e w' ⟨he, hw⟩ => ⟨by
    rw [he]
    have hg : Sp.get x 0 20 = 0 := by rw [As.get_num 0 20 (by decide) 1 1048576 (by decide) (by decide)]; omega
    unfold Sp.put
    rw [if_pos (by decide), hg]
    have h1 : (2 : Int) ^ (0 : Int).toNat = 1 := by decide
    have h2 : (2 : Int) ^ (20 : Int).toNat = 1048576 := by decide
    rw [h1, h2]
    congr 2
    omega, hw⟩)
theorem rputw24 (x v : Int) (w : World) (x0 : 0 ≤ x) (x1 : x < 4294967296) (hz : x % 16777216 = 0) (v0 : 0 ≤ v) (v1 : v < 4294967296) (hs : x + v % 16777216 < 4294967296) : Calls Tryd.prog 35 #[.int .u32 x, .int .i64 0, .int .i64 24, .int .u32 v] w fun e w' => e = .returned (.int .u32 (x + v % 16777216)) ∧ ∃ g, w' = more w g :=
  mo_drew ((put_any x 0 24 v w x0 x1 v0 v1).mono fun e w' ⟨he, hw⟩ => ⟨by
    rw [he]
    have hg : Sp.get x 0 24 = 0 := by rw [As.get_num 0 24 (by decide) 1 16777216 (by decide) (by decide)]; omega
    unfold Sp.put
    rw [if_pos (by decide), hg]
    have h1 : (2 : Int) ^ (0 : Int).toNat = 1 := by decide
    have h2 : (2 : Int) ^ (24 : Int).toNat = 16777216 := by decide
    rw [h1, h2]
    congr 2
    omega, hw⟩)
theorem rgood_any (x : As.Ins) (hf : 0 ≤ x.f ∧ x.f ≤ 3) (w : World) :
    Calls Tryd.prog 34 #[As.iv x] w fun e w' => As.BRet (As.Good x) e ∧ ∃ g, w' = more w g := by
  obtain ⟨f, u, v, a, b, c, op, n⟩ := x
  simp only at hf
  have : f = 0 ∨ f = 1 ∨ f = 2 ∨ f = 3 := by omega
  rcases this with rfl | rfl | rfl | rfl
  · exact rgood0_any u v a b c op n w
  · exact rgood1_any u v a b c op n w
  · exact rgood2_any u v a b c op n w
  · cases u
    · exact rgood3f_any v a b c op n w
    · exact rgood3t_any v a b c op n w
theorem rgood_yes {f : Int} {u v : Bool} {a b c op n : Int} (h : As.Good ⟨f, u, v, a, b, c, op, n⟩) (w : World) :
    Calls Tryd.prog 34 #[.agg #[.int .i64 f, .bool u, .bool v, .int .i64 a, .int .i64 b, .int .i64 c, .int .i64 op, .int .i64 n]] w fun e w' => e = .returned (.bool true) ∧ ∃ g, w' = more w g :=
  (rgood_any ⟨f, u, v, a, b, c, op, n⟩ (As.good_f h) w).mono fun e w' ⟨⟨r, he, hr⟩, hw⟩ => ⟨by rw [he, hr.2 h], hw⟩
theorem rgood_no {f : Int} {u v : Bool} {a b c op n : Int} (hf : 0 ≤ f ∧ f ≤ 3) (h : ¬ As.Good ⟨f, u, v, a, b, c, op, n⟩) (w : World) :
    Calls Tryd.prog 34 #[.agg #[.int .i64 f, .bool u, .bool v, .int .i64 a, .int .i64 b, .int .i64 c, .int .i64 op, .int .i64 n]] w fun e w' => e = .returned (.bool false) ∧ ∃ g, w' = more w g :=
  (rgood_any ⟨f, u, v, a, b, c, op, n⟩ hf w).mono fun e w' ⟨⟨r, he, hr⟩, hw⟩ => ⟨by
    cases r
    · exact he
    · exact absurd (hr.1 rfl) h, hw⟩
set_option maxRecDepth 100000 in
set_option maxHeartbeats 1600000 in
theorem renc_no (f : Int) (u v : Bool) (a b c op n : Int) (hf : 0 ≤ f ∧ f ≤ 3) (h : ¬ As.Good ⟨f, u, v, a, b, c, op, n⟩) (w : World) :
    Calls Tryd.prog 24 #[.agg #[.int .i64 f, .bool u, .bool v, .int .i64 a, .int .i64 b, .int .i64 c, .int .i64 op, .int .i64 n]] w fun e w' => e = .returned (.tuple #[.int .u32 0, .int .i64 20]) ∧ ∃ g, w' = more w g := by
  have H := Lib.hid (rgood_no hf h)
  clear hf h
  go_enter Tryd.func24, Tryd.ntmps24
  go_wp2_with (go_at_call 34; (with_reducible refine (H.out _).mono ?_); rintro e w2 ⟨rfl, g, rfl⟩)
  go_ret2
  exact ⟨rfl, more_of_below (by repeat' (first | (with_reducible exact Below.refl _ _) | (with_reducible assumption) | (with_reducible refine below_more ?_ ?_ _) | (with_reducible refine below_drewN ?_ _) | (with_reducible refine Below.drew ?_) | (with_reducible refine Below.alloc ?_ ?_ _) | (with_reducible refine Below.setCell ?_ ?_ _) | go_size | (simp [more_size]; done) | (simp [more_size]; omega)))⟩
set_option maxRecDepth 100000 in
set_option maxHeartbeats 3200000 in
theorem renc0_any (u v : Bool) (a b c op n : Int) (a0 : 0 ≤ a) (a1 : a < 16) (b0 : 0 ≤ b) (b1 : b < 16) (c0 : 0 ≤ c) (c1 : c < 16) (o0 : 0 ≤ op) (o1 : op ≤ 11) (h : As.Good ⟨0, u, v, a, b, c, op, n⟩) (w : World) :
    Calls Tryd.prog 24 #[.agg #[.int .i64 0, .bool u, .bool v, .int .i64 a, .int .i64 b, .int .i64 c, .int .i64 op, .int .i64 n]] w fun e w' => e = .returned (.tuple #[.int .u32 (As.enc ⟨0, u, v, a, b, c, op, n⟩), .int .i64 0]) ∧ ∃ g, w' = more w g := by
  have H := Lib.hid (rgood_yes h)
  have HU := As.fl_le u
  have HV := As.fl_le v
  obtain rfl : n = 0 := by have := h.2; simp only at this; omega
  clear h
  go_enter Tryd.func24, Tryd.ntmps24
  go_wp2_with (first | (go_at_call 34; (with_reducible refine (H.out _).mono ?_); rintro e w2 ⟨rfl, g, rfl⟩) | (go_at_call 36; (with_reducible refine (rbit_any _ _).mono ?_); rintro e w2 ⟨rfl, g, rfl⟩) | (go_at_call 37; (with_reducible refine (rword_any _ _).mono ?_); rintro e w2 ⟨rfl, rfl⟩) | (go_at_call 35; first | ((with_reducible refine (rput30_2 _ _ _ ?_ ?_ ?_ ?_ ?_ ?_).mono ?_); (focus (omega)); (focus (omega)); (focus (omega)); (focus (omega)); (focus (omega)); (focus (omega)); rintro e w2 ⟨rfl, g, rfl⟩) | ((with_reducible refine (rput29_1 _ _ _ ?_ ?_ ?_ ?_ ?_ ?_).mono ?_); (focus (omega)); (focus (omega)); (focus (omega)); (focus (omega)); (focus (omega)); (focus (omega)); rintro e w2 ⟨rfl, g, rfl⟩) | ((with_reducible refine (rput28_1 _ _ _ ?_ ?_ ?_ ?_ ?_ ?_).mono ?_); (focus (omega)); (focus (omega)); (focus (omega)); (focus (omega)); (focus (omega)); (focus (omega)); rintro e w2 ⟨rfl, g, rfl⟩) | ((with_reducible refine (rput24_4 _ _ _ ?_ ?_ ?_ ?_ ?_ ?_).mono ?_); (focus (omega)); (focus (omega)); (focus (omega)); (focus (omega)); (focus (omega)); (focus (omega)); rintro e w2 ⟨rfl, g, rfl⟩) | ((with_reducible refine (rput20_4 _ _ _ ?_ ?_ ?_ ?_ ?_ ?_).mono ?_); (focus (omega)); (focus (omega)); (focus (omega)); (focus (omega)); (focus (omega)); (focus (omega)); rintro e w2 ⟨rfl, g, rfl⟩) | ((with_reducible refine (rput16_4 _ _ _ ?_ ?_ ?_ ?_ ?_ ?_).mono ?_); (focus (omega)); (focus (omega)); (focus (omega)); (focus (omega)); (focus (omega)); (focus (omega)); rintro e w2 ⟨rfl, g, rfl⟩) | ((with_reducible refine (rput0_4 _ _ _ ?_ ?_ ?_ ?_ ?_ ?_).mono ?_); (focus (omega)); (focus (omega)); (focus (omega)); (focus (omega)); (focus (omega)); (focus (omega)); rintro e w2 ⟨rfl, g, rfl⟩) | ((with_reducible refine (rput0_16 _ _ _ ?_ ?_ ?_ ?_ ?_ ?_).mono ?_); (focus (omega)); (focus (omega)); (focus (omega)); (focus (omega)); (focus (omega)); (focus (omega)); rintro e w2 ⟨rfl, g, rfl⟩) | ((with_reducible refine (rputw20 _ _ _ ?_ ?_ ?_ ?_ ?_ ?_).mono ?_); (focus (omega)); (focus (omega)); (focus (omega)); (focus (omega)); (focus (omega)); (focus (omega)); rintro e w2 ⟨rfl, g, rfl⟩) | ((with_reducible refine (rputw24 _ _ _ ?_ ?_ ?_ ?_ ?_ ?_).mono ?_); (focus (omega)); (focus (omega)); (focus (omega)); (focus (omega)); (focus (omega)); (focus (omega)); rintro e w2 ⟨rfl, g, rfl⟩)))
  all_goals go_ret2
  all_goals refine ⟨As.ret_pair ?_, more_of_below (by repeat' (first | (with_reducible exact Below.refl _ _) | (with_reducible assumption) | (with_reducible refine below_more ?_ ?_ _) | (with_reducible refine below_drewN ?_ _) | (with_reducible refine Below.drew ?_) | (with_reducible refine Below.alloc ?_ ?_ _) | (with_reducible refine Below.setCell ?_ ?_ _) | go_size | (simp [more_size]; done) | (simp [more_size]; omega)))⟩
  all_goals simp [As.enc, As.low]
  all_goals try omega
set_option maxRecDepth 100000 in
set_option maxHeartbeats 3200000 in
theorem renc1_any (u v : Bool) (a b c op n : Int) (a0 : 0 ≤ a) (a1 : a < 16) (b0 : 0 ≤ b) (b1 : b < 16) (c0 : 0 ≤ c) (c1 : c < 16) (o0 : 0 ≤ op) (o1 : op ≤ 11) (h : As.Good ⟨1, u, v, a, b, c, op, n⟩) (w : World) :
    Calls Tryd.prog 24 #[.agg #[.int .i64 1, .bool u, .bool v, .int .i64 a, .int .i64 b, .int .i64 c, .int .i64 op, .int .i64 n]] w fun e w' => e = .returned (.tuple #[.int .u32 (As.enc ⟨1, u, v, a, b, c, op, n⟩), .int .i64 0]) ∧ ∃ g, w' = more w g := by
  have H := Lib.hid (rgood_yes h)
  have HU := As.fl_le u
  have HV := As.fl_le v
  obtain rfl : c = 0 := by have := h.2; simp only at this; omega
  have n2 : 0 ≤ n ∧ n < 65536 := by have := h.2; simp only at this; omega
  clear h
  go_enter Tryd.func24, Tryd.ntmps24
  go_wp2_with (first | (go_at_call 34; (with_reducible refine (H.out _).mono ?_); rintro e w2 ⟨rfl, g, rfl⟩) | (go_at_call 36; (with_reducible refine (rbit_any _ _).mono ?_); rintro e w2 ⟨rfl, g, rfl⟩) | (go_at_call 37; (with_reducible refine (rword_any _ _).mono ?_); rintro e w2 ⟨rfl, rfl⟩) | (go_at_call 35; first | ((with_reducible refine (rput30_2 _ _ _ ?_ ?_ ?_ ?_ ?_ ?_).mono ?_); (focus (omega)); (focus (omega)); (focus (omega)); (focus (omega)); (focus (omega)); (focus (omega)); rintro e w2 ⟨rfl, g, rfl⟩) | ((with_reducible refine (rput29_1 _ _ _ ?_ ?_ ?_ ?_ ?_ ?_).mono ?_); (focus (omega)); (focus (omega)); (focus (omega)); (focus (omega)); (focus (omega)); (focus (omega)); rintro e w2 ⟨rfl, g, rfl⟩) | ((with_reducible refine (rput28_1 _ _ _ ?_ ?_ ?_ ?_ ?_ ?_).mono ?_); (focus (omega)); (focus (omega)); (focus (omega)); (focus (omega)); (focus (omega)); (focus (omega)); rintro e w2 ⟨rfl, g, rfl⟩) | ((with_reducible refine (rput24_4 _ _ _ ?_ ?_ ?_ ?_ ?_ ?_).mono ?_); (focus (omega)); (focus (omega)); (focus (omega)); (focus (omega)); (focus (omega)); (focus (omega)); rintro e w2 ⟨rfl, g, rfl⟩) | ((with_reducible refine (rput20_4 _ _ _ ?_ ?_ ?_ ?_ ?_ ?_).mono ?_); (focus (omega)); (focus (omega)); (focus (omega)); (focus (omega)); (focus (omega)); (focus (omega)); rintro e w2 ⟨rfl, g, rfl⟩) | ((with_reducible refine (rput16_4 _ _ _ ?_ ?_ ?_ ?_ ?_ ?_).mono ?_); (focus (omega)); (focus (omega)); (focus (omega)); (focus (omega)); (focus (omega)); (focus (omega)); rintro e w2 ⟨rfl, g, rfl⟩) | ((with_reducible refine (rput0_4 _ _ _ ?_ ?_ ?_ ?_ ?_ ?_).mono ?_); (focus (omega)); (focus (omega)); (focus (omega)); (focus (omega)); (focus (omega)); (focus (omega)); rintro e w2 ⟨rfl, g, rfl⟩) | ((with_reducible refine (rput0_16 _ _ _ ?_ ?_ ?_ ?_ ?_ ?_).mono ?_); (focus (omega)); (focus (omega)); (focus (omega)); (focus (omega)); (focus (omega)); (focus (omega)); rintro e w2 ⟨rfl, g, rfl⟩) | ((with_reducible refine (rputw20 _ _ _ ?_ ?_ ?_ ?_ ?_ ?_).mono ?_); (focus (omega)); (focus (omega)); (focus (omega)); (focus (omega)); (focus (omega)); (focus (omega)); rintro e w2 ⟨rfl, g, rfl⟩) | ((with_reducible refine (rputw24 _ _ _ ?_ ?_ ?_ ?_ ?_ ?_).mono ?_); (focus (omega)); (focus (omega)); (focus (omega)); (focus (omega)); (focus (omega)); (focus (omega)); rintro e w2 ⟨rfl, g, rfl⟩)))
  all_goals go_ret2
  all_goals refine ⟨As.ret_pair ?_, more_of_below (by repeat' (first | (with_reducible exact Below.refl _ _) | (with_reducible assumption) | (with_reducible refine below_more ?_ ?_ _) | (with_reducible refine below_drewN ?_ _) | (with_reducible refine Below.drew ?_) | (with_reducible refine Below.alloc ?_ ?_ _) | (with_reducible refine Below.setCell ?_ ?_ _) | go_size | (simp [more_size]; done) | (simp [more_size]; omega)))⟩
  all_goals simp [As.enc, As.low]
  all_goals try omega
set_option maxRecDepth 100000 in
set_option maxHeartbeats 3200000 in
theorem renc2_any (u v : Bool) (a b c op n : Int) (a0 : 0 ≤ a) (a1 : a < 16) (b0 : 0 ≤ b) (b1 : b < 16) (c0 : 0 ≤ c) (c1 : c < 16) (o0 : 0 ≤ op) (o1 : op ≤ 11) (h : As.Good ⟨2, u, v, a, b, c, op, n⟩) (w : World) :
    Calls Tryd.prog 24 #[.agg #[.int .i64 2, .bool u, .bool v, .int .i64 a, .int .i64 b, .int .i64 c, .int .i64 op, .int .i64 n]] w fun e w' => e = .returned (.tuple #[.int .u32 (As.enc ⟨2, u, v, a, b, c, op, n⟩), .int .i64 0]) ∧ ∃ g, w' = more w g := by
  have H := Lib.hid (rgood_yes h)
  have HU := As.fl_le u
  have HV := As.fl_le v
  obtain ⟨rfl, rfl⟩ : c = 0 ∧ op = 0 := by have := h.2; simp only at this; omega
  clear h
  go_enter Tryd.func24, Tryd.ntmps24
  go_wp2_with (first | (go_at_call 34; (with_reducible refine (H.out _).mono ?_); rintro e w2 ⟨rfl, g, rfl⟩) | (go_at_call 36; (with_reducible refine (rbit_any _ _).mono ?_); rintro e w2 ⟨rfl, g, rfl⟩) | (go_at_call 37; (with_reducible refine (rword_any _ _).mono ?_); rintro e w2 ⟨rfl, rfl⟩) | (go_at_call 35; first | ((with_reducible refine (rput30_2 _ _ _ ?_ ?_ ?_ ?_ ?_ ?_).mono ?_); (focus (omega)); (focus (omega)); (focus (omega)); (focus (omega)); (focus (omega)); (focus (omega)); rintro e w2 ⟨rfl, g, rfl⟩) | ((with_reducible refine (rput29_1 _ _ _ ?_ ?_ ?_ ?_ ?_ ?_).mono ?_); (focus (omega)); (focus (omega)); (focus (omega)); (focus (omega)); (focus (omega)); (focus (omega)); rintro e w2 ⟨rfl, g, rfl⟩) | ((with_reducible refine (rput28_1 _ _ _ ?_ ?_ ?_ ?_ ?_ ?_).mono ?_); (focus (omega)); (focus (omega)); (focus (omega)); (focus (omega)); (focus (omega)); (focus (omega)); rintro e w2 ⟨rfl, g, rfl⟩) | ((with_reducible refine (rput24_4 _ _ _ ?_ ?_ ?_ ?_ ?_ ?_).mono ?_); (focus (omega)); (focus (omega)); (focus (omega)); (focus (omega)); (focus (omega)); (focus (omega)); rintro e w2 ⟨rfl, g, rfl⟩) | ((with_reducible refine (rput20_4 _ _ _ ?_ ?_ ?_ ?_ ?_ ?_).mono ?_); (focus (omega)); (focus (omega)); (focus (omega)); (focus (omega)); (focus (omega)); (focus (omega)); rintro e w2 ⟨rfl, g, rfl⟩) | ((with_reducible refine (rput16_4 _ _ _ ?_ ?_ ?_ ?_ ?_ ?_).mono ?_); (focus (omega)); (focus (omega)); (focus (omega)); (focus (omega)); (focus (omega)); (focus (omega)); rintro e w2 ⟨rfl, g, rfl⟩) | ((with_reducible refine (rput0_4 _ _ _ ?_ ?_ ?_ ?_ ?_ ?_).mono ?_); (focus (omega)); (focus (omega)); (focus (omega)); (focus (omega)); (focus (omega)); (focus (omega)); rintro e w2 ⟨rfl, g, rfl⟩) | ((with_reducible refine (rput0_16 _ _ _ ?_ ?_ ?_ ?_ ?_ ?_).mono ?_); (focus (omega)); (focus (omega)); (focus (omega)); (focus (omega)); (focus (omega)); (focus (omega)); rintro e w2 ⟨rfl, g, rfl⟩) | ((with_reducible refine (rputw20 _ _ _ ?_ ?_ ?_ ?_ ?_ ?_).mono ?_); (focus (omega)); (focus (omega)); (focus (omega)); (focus (omega)); (focus (omega)); (focus (omega)); rintro e w2 ⟨rfl, g, rfl⟩) | ((with_reducible refine (rputw24 _ _ _ ?_ ?_ ?_ ?_ ?_ ?_).mono ?_); (focus (omega)); (focus (omega)); (focus (omega)); (focus (omega)); (focus (omega)); (focus (omega)); rintro e w2 ⟨rfl, g, rfl⟩)))
  all_goals go_ret2
  all_goals refine ⟨As.ret_pair ?_, more_of_below (by repeat' (first | (with_reducible exact Below.refl _ _) | (with_reducible assumption) | (with_reducible refine below_more ?_ ?_ _) | (with_reducible refine below_drewN ?_ _) | (with_reducible refine Below.drew ?_) | (with_reducible refine Below.alloc ?_ ?_ _) | (with_reducible refine Below.setCell ?_ ?_ _) | go_size | (simp [more_size]; done) | (simp [more_size]; omega)))⟩
  all_goals simp [As.enc, As.low]
  all_goals try omega
set_option maxRecDepth 100000 in
set_option maxHeartbeats 3200000 in
theorem renc3t_any (v : Bool) (a n : Int) (a0 : 0 ≤ a) (a1 : a < 16) (h : As.Good ⟨3, true, v, a, 0, 0, 0, n⟩) (w : World) :
    Calls Tryd.prog 24 #[.agg #[.int .i64 3, .bool true, .bool v, .int .i64 a, .int .i64 0, .int .i64 0, .int .i64 0, .int .i64 n]] w fun e w' => e = .returned (.tuple #[.int .u32 (As.enc ⟨3, true, v, a, 0, 0, 0, n⟩), .int .i64 0]) ∧ ∃ g, w' = more w g := by
  have H := Lib.hid (rgood_yes h)
  have HU := As.fl_le true
  have HV := As.fl_le v
  clear h
  go_enter Tryd.func24, Tryd.ntmps24
  go_wp2_with (first | (go_at_call 34; (with_reducible refine (H.out _).mono ?_); rintro e w2 ⟨rfl, g, rfl⟩) | (go_at_call 36; (with_reducible refine (rbit_any _ _).mono ?_); rintro e w2 ⟨rfl, g, rfl⟩) | (go_at_call 37; (with_reducible refine (rword_any _ _).mono ?_); rintro e w2 ⟨rfl, rfl⟩) | (go_at_call 35; first | ((with_reducible refine (rput30_2 _ _ _ ?_ ?_ ?_ ?_ ?_ ?_).mono ?_); (focus (omega)); (focus (omega)); (focus (omega)); (focus (omega)); (focus (omega)); (focus (omega)); rintro e w2 ⟨rfl, g, rfl⟩) | ((with_reducible refine (rput29_1 _ _ _ ?_ ?_ ?_ ?_ ?_ ?_).mono ?_); (focus (omega)); (focus (omega)); (focus (omega)); (focus (omega)); (focus (omega)); (focus (omega)); rintro e w2 ⟨rfl, g, rfl⟩) | ((with_reducible refine (rput28_1 _ _ _ ?_ ?_ ?_ ?_ ?_ ?_).mono ?_); (focus (omega)); (focus (omega)); (focus (omega)); (focus (omega)); (focus (omega)); (focus (omega)); rintro e w2 ⟨rfl, g, rfl⟩) | ((with_reducible refine (rput24_4 _ _ _ ?_ ?_ ?_ ?_ ?_ ?_).mono ?_); (focus (omega)); (focus (omega)); (focus (omega)); (focus (omega)); (focus (omega)); (focus (omega)); rintro e w2 ⟨rfl, g, rfl⟩) | ((with_reducible refine (rput20_4 _ _ _ ?_ ?_ ?_ ?_ ?_ ?_).mono ?_); (focus (omega)); (focus (omega)); (focus (omega)); (focus (omega)); (focus (omega)); (focus (omega)); rintro e w2 ⟨rfl, g, rfl⟩) | ((with_reducible refine (rput16_4 _ _ _ ?_ ?_ ?_ ?_ ?_ ?_).mono ?_); (focus (omega)); (focus (omega)); (focus (omega)); (focus (omega)); (focus (omega)); (focus (omega)); rintro e w2 ⟨rfl, g, rfl⟩) | ((with_reducible refine (rput0_4 _ _ _ ?_ ?_ ?_ ?_ ?_ ?_).mono ?_); (focus (omega)); (focus (omega)); (focus (omega)); (focus (omega)); (focus (omega)); (focus (omega)); rintro e w2 ⟨rfl, g, rfl⟩) | ((with_reducible refine (rput0_16 _ _ _ ?_ ?_ ?_ ?_ ?_ ?_).mono ?_); (focus (omega)); (focus (omega)); (focus (omega)); (focus (omega)); (focus (omega)); (focus (omega)); rintro e w2 ⟨rfl, g, rfl⟩) | ((with_reducible refine (rputw20 _ _ _ ?_ ?_ ?_ ?_ ?_ ?_).mono ?_); (focus (omega)); (focus (omega)); (focus (omega)); (focus (omega)); (focus (omega)); (focus (omega)); rintro e w2 ⟨rfl, g, rfl⟩) | ((with_reducible refine (rputw24 _ _ _ ?_ ?_ ?_ ?_ ?_ ?_).mono ?_); (focus (omega)); (focus (omega)); (focus (omega)); (focus (omega)); (focus (omega)); (focus (omega)); rintro e w2 ⟨rfl, g, rfl⟩)))
  all_goals go_ret2
  all_goals refine ⟨As.ret_pair ?_, more_of_below (by repeat' (first | (with_reducible exact Below.refl _ _) | (with_reducible assumption) | (with_reducible refine below_more ?_ ?_ _) | (with_reducible refine below_drewN ?_ _) | (with_reducible refine Below.drew ?_) | (with_reducible refine Below.alloc ?_ ?_ _) | (with_reducible refine Below.setCell ?_ ?_ _) | go_size | (simp [more_size]; done) | (simp [more_size]; omega)))⟩
  all_goals simp [As.enc, As.low]
  all_goals try omega
set_option maxRecDepth 100000 in
set_option maxHeartbeats 3200000 in
theorem renc3f_any (v : Bool) (a c : Int) (a0 : 0 ≤ a) (a1 : a < 16) (c0 : 0 ≤ c) (c1 : c < 16) (h : As.Good ⟨3, false, v, a, 0, c, 0, 0⟩) (w : World) :
    Calls Tryd.prog 24 #[.agg #[.int .i64 3, .bool false, .bool v, .int .i64 a, .int .i64 0, .int .i64 c, .int .i64 0, .int .i64 0]] w fun e w' => e = .returned (.tuple #[.int .u32 (As.enc ⟨3, false, v, a, 0, c, 0, 0⟩), .int .i64 0]) ∧ ∃ g, w' = more w g := by
  have H := Lib.hid (rgood_yes h)
  have HU := As.fl_le false
  have HV := As.fl_le v
  clear h
  go_enter Tryd.func24, Tryd.ntmps24
  go_wp2_with (first | (go_at_call 34; (with_reducible refine (H.out _).mono ?_); rintro e w2 ⟨rfl, g, rfl⟩) | (go_at_call 36; (with_reducible refine (rbit_any _ _).mono ?_); rintro e w2 ⟨rfl, g, rfl⟩) | (go_at_call 37; (with_reducible refine (rword_any _ _).mono ?_); rintro e w2 ⟨rfl, rfl⟩) | (go_at_call 35; first | ((with_reducible refine (rput30_2 _ _ _ ?_ ?_ ?_ ?_ ?_ ?_).mono ?_); (focus (omega)); (focus (omega)); (focus (omega)); (focus (omega)); (focus (omega)); (focus (omega)); rintro e w2 ⟨rfl, g, rfl⟩) | ((with_reducible refine (rput29_1 _ _ _ ?_ ?_ ?_ ?_ ?_ ?_).mono ?_); (focus (omega)); (focus (omega)); (focus (omega)); (focus (omega)); (focus (omega)); (focus (omega)); rintro e w2 ⟨rfl, g, rfl⟩) | ((with_reducible refine (rput28_1 _ _ _ ?_ ?_ ?_ ?_ ?_ ?_).mono ?_); (focus (omega)); (focus (omega)); (focus (omega)); (focus (omega)); (focus (omega)); (focus (omega)); rintro e w2 ⟨rfl, g, rfl⟩) | ((with_reducible refine (rput24_4 _ _ _ ?_ ?_ ?_ ?_ ?_ ?_).mono ?_); (focus (omega)); (focus (omega)); (focus (omega)); (focus (omega)); (focus (omega)); (focus (omega)); rintro e w2 ⟨rfl, g, rfl⟩) | ((with_reducible refine (rput20_4 _ _ _ ?_ ?_ ?_ ?_ ?_ ?_).mono ?_); (focus (omega)); (focus (omega)); (focus (omega)); (focus (omega)); (focus (omega)); (focus (omega)); rintro e w2 ⟨rfl, g, rfl⟩) | ((with_reducible refine (rput16_4 _ _ _ ?_ ?_ ?_ ?_ ?_ ?_).mono ?_); (focus (omega)); (focus (omega)); (focus (omega)); (focus (omega)); (focus (omega)); (focus (omega)); rintro e w2 ⟨rfl, g, rfl⟩) | ((with_reducible refine (rput0_4 _ _ _ ?_ ?_ ?_ ?_ ?_ ?_).mono ?_); (focus (omega)); (focus (omega)); (focus (omega)); (focus (omega)); (focus (omega)); (focus (omega)); rintro e w2 ⟨rfl, g, rfl⟩) | ((with_reducible refine (rput0_16 _ _ _ ?_ ?_ ?_ ?_ ?_ ?_).mono ?_); (focus (omega)); (focus (omega)); (focus (omega)); (focus (omega)); (focus (omega)); (focus (omega)); rintro e w2 ⟨rfl, g, rfl⟩) | ((with_reducible refine (rputw20 _ _ _ ?_ ?_ ?_ ?_ ?_ ?_).mono ?_); (focus (omega)); (focus (omega)); (focus (omega)); (focus (omega)); (focus (omega)); (focus (omega)); rintro e w2 ⟨rfl, g, rfl⟩) | ((with_reducible refine (rputw24 _ _ _ ?_ ?_ ?_ ?_ ?_ ?_).mono ?_); (focus (omega)); (focus (omega)); (focus (omega)); (focus (omega)); (focus (omega)); (focus (omega)); rintro e w2 ⟨rfl, g, rfl⟩)))
  all_goals go_ret2
  all_goals refine ⟨As.ret_pair ?_, more_of_below (by repeat' (first | (with_reducible exact Below.refl _ _) | (with_reducible assumption) | (with_reducible refine below_more ?_ ?_ _) | (with_reducible refine below_drewN ?_ _) | (with_reducible refine Below.drew ?_) | (with_reducible refine Below.alloc ?_ ?_ _) | (with_reducible refine Below.setCell ?_ ?_ _) | go_size | (simp [more_size]; done) | (simp [more_size]; omega)))⟩
  all_goals simp [As.enc, As.low]
  all_goals try omega
theorem renc_yes {x : As.Ins} (h : As.Good x) (w : World) :
    Calls Tryd.prog 24 #[As.iv x] w fun e w' => e = .returned (.tuple #[.int .u32 (As.enc x), .int .i64 0]) ∧ ∃ g, w' = more w g := by
  have hg := h
  obtain ⟨f, u, v, a, b, c, op, n⟩ := x
  obtain ⟨⟨a0, a1, b0, b1, c0, c1, o0, o1⟩, h⟩ := h
  simp only at *
  rcases h with ⟨rfl, h⟩ | ⟨rfl, h⟩ | ⟨rfl, h⟩ | ⟨rfl, rfl, rfl, h3, h4⟩
  · exact renc0_any u v a b c op n a0 a1 b0 b1 c0 c1 o0 o1 hg w
  · exact renc1_any u v a b c op n a0 a1 b0 b1 c0 c1 o0 o1 hg w
  · exact renc2_any u v a b c op n a0 a1 b0 b1 c0 c1 o0 o1 hg w
  · cases u
    · obtain rfl := h4 rfl
      exact renc3f_any v a c a0 a1 c0 c1 hg w
    · obtain ⟨rfl, _, _⟩ := h3 rfl
      exact renc3t_any v a n a0 a1 hg w
end Go.Proofs.YtcckbmmjklahfaaDoor
