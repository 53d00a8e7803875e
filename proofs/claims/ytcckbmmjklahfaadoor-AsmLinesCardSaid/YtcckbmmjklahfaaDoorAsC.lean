/- The walk of the program's risc.Encode. Conditions: none. -/
import Derived.Test.YtcckbmmjklahfaaDoorAsB2
namespace Go.Proofs.YtcckbmmjklahfaaDoor
set_option linter.all false
open Go.RowKit
namespace As
def iv (x : Ins) : Value := .agg #[.int .i64 x.f, .bool x.u, .bool x.v, .int .i64 x.a, .int .i64 x.b, .int .i64 x.c, .int .i64 x.op, .int .i64 x.n]
end As
namespace As
theorem or_sum (n : Nat) (hi lo : Int) (h0 : 0 ≤ hi) (h1 : hi < 4294967296) (hd : hi % ((2 ^ n : Nat) : Int) = 0) (l0 : 0 ≤ lo) (l1 : lo < ((2 ^ n : Nat) : Int)) (l2 : lo < 4294967296) : bits .or .u32 hi lo = hi + lo := by
  rw [u32_or hi lo h0 h1 l0 l2]
  obtain ⟨x, rfl⟩ := Int.eq_ofNat_of_zero_le h0
  obtain ⟨y, rfl⟩ := Int.eq_ofNat_of_zero_le l0
  simp only [Int.toNat_natCast]
  have hx : x % 2 ^ n = 0 := by exact_mod_cast hd
  have hy : y < 2 ^ n := by exact_mod_cast l1
  obtain ⟨q, rfl⟩ := Nat.dvd_of_mod_eq_zero hx
  rw [← Nat.two_pow_add_eq_or_of_lt hy]
  simp
theorem or_eq (n : Nat) {X hi lo : Int} (e : X = hi) (h0 : 0 ≤ hi) (h1 : hi < 4294967296) (hd : hi % ((2 ^ n : Nat) : Int) = 0) (l0 : 0 ≤ lo) (l1 : lo < ((2 ^ n : Nat) : Int)) (l2 : lo < 4294967296) : bits .or .u32 X lo = hi + lo := by
  rw [e]; exact or_sum n hi lo h0 h1 hd l0 l1 l2
theorem ret_pair {k k2 : IntKind} {a b c : Int} (h : a = b) : Ending.returned (.tuple #[.int k a, .int k2 c]) = .returned (.tuple #[.int k b, .int k2 c]) := by rw [h]
end As
/-- a call in a drawing region that itself stands behind a call -/
theorem mo_in2 {P : Program} {f : FuncId} {args : Array Value} {w : World} {g x : Came} {v : Value}
    (h : Calls P f args (more w ⟨g.o ++ x.o, x.d⟩) fun e w' => e = .returned v ∧ ∃ g', w' = more (more w ⟨g.o ++ x.o, x.d⟩) g') : Calls P f args (more w ⟨g.o ++ x.o, x.d⟩) fun e w'' => e = .returned v ∧ ∃ g' : Came, w'' = more w ⟨g.o ++ g'.o, g'.d⟩ :=
  h.mono fun _ _ ⟨he, g', hw⟩ => ⟨he, ⟨x.o ++ g'.o, g'.d⟩, by rw [hw, more_more]; simp only [Array.append_assoc]⟩
theorem bit_any (b : Bool) (k : Int) (w : World) (hk : k = 28 ∨ k = 29) :
    Calls Tryd.prog 45 #[.bool b, .int .i64 k] w fun e w' => e = .returned (.int .u32 (if b = true then (if k = 29 then 536870912 else 268435456) else 0)) ∧ ∃ g, w' = more w g := by
  rcases hk with rfl | rfl
  · exact (bit28_any b w).mono fun e w' ⟨he, hw⟩ => ⟨by rw [he]; cases b <;> rfl, hw⟩
  · exact (bit29_any b w).mono fun e w' ⟨he, hw⟩ => ⟨by rw [he]; cases b <;> rfl, hw⟩
theorem pgood_any (x : As.Ins) (hf : 0 ≤ x.f ∧ x.f ≤ 3) (w : World) :
    Calls Tryd.prog 44 #[As.iv x] w fun e w' => As.BRet (As.Good x) e ∧ ∃ g, w' = more w g := by
  obtain ⟨f, u, v, a, b, c, op, n⟩ := x
  simp only at hf
  have : f = 0 ∨ f = 1 ∨ f = 2 ∨ f = 3 := by omega
  rcases this with rfl | rfl | rfl | rfl
  · exact pgood0_any u v a b c op n w
  · exact pgood1_any u v a b c op n w
  · exact pgood2_any u v a b c op n w
  · cases u
    · exact pgood3f_any v a b c op n w
    · exact pgood3t_any v a b c op n w
theorem pgood_yes {f : Int} {u v : Bool} {a b c op n : Int} (h : As.Good ⟨f, u, v, a, b, c, op, n⟩) (w : World) :
    Calls Tryd.prog 44 #[.agg #[.int .i64 f, .bool u, .bool v, .int .i64 a, .int .i64 b, .int .i64 c, .int .i64 op, .int .i64 n]] w fun e w' => e = .returned (.bool true) ∧ ∃ g, w' = more w g :=
  (pgood_any ⟨f, u, v, a, b, c, op, n⟩ (As.good_f h) w).mono fun e w' ⟨⟨r, he, hr⟩, hw⟩ => ⟨by rw [he, hr.2 h], hw⟩
theorem pgood_no {f : Int} {u v : Bool} {a b c op n : Int} (hf : 0 ≤ f ∧ f ≤ 3) (h : ¬ As.Good ⟨f, u, v, a, b, c, op, n⟩) (w : World) :
    Calls Tryd.prog 44 #[.agg #[.int .i64 f, .bool u, .bool v, .int .i64 a, .int .i64 b, .int .i64 c, .int .i64 op, .int .i64 n]] w fun e w' => e = .returned (.bool false) ∧ ∃ g, w' = more w g :=
  (pgood_any ⟨f, u, v, a, b, c, op, n⟩ hf w).mono fun e w' ⟨⟨r, he, hr⟩, hw⟩ => ⟨by
    cases r
    · exact he
    · exact absurd (hr.1 rfl) h, hw⟩
set_option maxRecDepth 100000 in
set_option maxHeartbeats 1600000 in
theorem penc_no (f : Int) (u v : Bool) (a b c op n : Int) (hf : 0 ≤ f ∧ f ≤ 3) (h : ¬ As.Good ⟨f, u, v, a, b, c, op, n⟩) (w : World) :
    Calls Tryd.prog 30 #[.agg #[.int .i64 f, .bool u, .bool v, .int .i64 a, .int .i64 b, .int .i64 c, .int .i64 op, .int .i64 n]] w fun e w' => e = .returned (.tuple #[.int .u32 0, .int .i64 20]) ∧ ∃ g, w' = more w g := by
  have H := Lib.hid (pgood_no hf h)
  clear hf h
  go_enter Tryd.func30, Tryd.ntmps30
  go_wp2_with (go_at_call 44; (with_reducible refine (H.out _).mono ?_); rintro e w2 ⟨rfl, g, rfl⟩)
  go_ret2
  exact ⟨rfl, more_of_below (by repeat' (first | (with_reducible exact Below.refl _ _) | (with_reducible assumption) | (with_reducible refine below_more ?_ ?_ _) | (with_reducible refine below_drewN ?_ _) | (with_reducible refine Below.drew ?_) | (with_reducible refine Below.alloc ?_ ?_ _) | (with_reducible refine Below.setCell ?_ ?_ _) | go_size | (simp [more_size]; done) | (simp [more_size]; omega)))⟩
set_option maxRecDepth 100000 in
set_option maxHeartbeats 1600000 in
theorem penc0_any (u v : Bool) (a b c op n : Int) (a0 : 0 ≤ a) (a1 : a < 16) (b0 : 0 ≤ b) (b1 : b < 16) (c0 : 0 ≤ c) (c1 : c < 16) (o0 : 0 ≤ op) (o1 : op ≤ 11) (h : As.Good ⟨0, u, v, a, b, c, op, n⟩) (w : World) :
    Calls Tryd.prog 30 #[.agg #[.int .i64 0, .bool u, .bool v, .int .i64 a, .int .i64 b, .int .i64 c, .int .i64 op, .int .i64 n]] w fun e w' => e = .returned (.tuple #[.int .u32 (As.enc ⟨0, u, v, a, b, c, op, n⟩), .int .i64 0]) ∧ ∃ g, w' = more w g := by
  have H := Lib.hid (pgood_yes h)
  obtain rfl : n = 0 := by have := h.2; simp only at this; omega
  clear h
  go_enter Tryd.func30, Tryd.ntmps30
  go_wp2_with (go_at_call 44; (with_reducible refine (H.out _).mono ?_); rintro e w2 ⟨rfl, g, rfl⟩)
  refine wp_region_more (by kernel_rfl) (by kernel_rfl) ?_
  repeat (first | go_big_quiet_skip | (go_big_quiet_want; go_big_quiet_op; first | go_big_quiet_on | (apply Exists.intro; refine ⟨fun _ => ?_, ?_⟩; (focus (first | (go_at_call 45; exact mo_in2 (bit_any _ _ _ (by omega))))); go_big_quiet_on)))
  refine wpQuiet_nil ?_
  intro _ hw'
  obtain ⟨gq, rfl⟩ := hw'
  go_wp2
  all_goals go_ret2
  all_goals refine ⟨As.ret_pair ?_, more_of_below (by repeat' (first | (with_reducible exact Below.refl _ _) | (with_reducible assumption) | (with_reducible refine below_more ?_ ?_ _) | (with_reducible refine below_drewN ?_ _) | (with_reducible refine Below.drew ?_) | (with_reducible refine Below.alloc ?_ ?_ _) | (with_reducible refine Below.setCell ?_ ?_ _) | go_size | (simp [more_size]; done) | (simp [more_size]; omega)))⟩
  all_goals refine (As.or_eq 0 (As.or_eq 16 (As.or_eq 20 (As.or_eq 24 (As.or_eq 28 (As.or_eq 29 (As.or_eq 30 rfl (by omega) (by omega) (by omega) (by omega) (by omega) (by omega)) (by omega) (by omega) (by omega) (by omega) (by omega) (by omega)) (by omega) (by omega) (by omega) (by omega) (by omega) (by omega)) (by omega) (by omega) (by omega) (by omega) (by omega) (by omega)) (by omega) (by omega) (by omega) (by omega) (by omega) (by omega)) (by omega) (by omega) (by omega) (by omega) (by omega) (by omega)) (by omega) (by omega) (by omega) (by omega) (by omega) (by omega)).trans ?_
  all_goals simp [As.enc, As.low, As.fl]
  all_goals omega
set_option maxRecDepth 100000 in
set_option maxHeartbeats 1600000 in
theorem penc1_any (u v : Bool) (a b c op n : Int) (a0 : 0 ≤ a) (a1 : a < 16) (b0 : 0 ≤ b) (b1 : b < 16) (c0 : 0 ≤ c) (c1 : c < 16) (o0 : 0 ≤ op) (o1 : op ≤ 11) (h : As.Good ⟨1, u, v, a, b, c, op, n⟩) (w : World) :
    Calls Tryd.prog 30 #[.agg #[.int .i64 1, .bool u, .bool v, .int .i64 a, .int .i64 b, .int .i64 c, .int .i64 op, .int .i64 n]] w fun e w' => e = .returned (.tuple #[.int .u32 (As.enc ⟨1, u, v, a, b, c, op, n⟩), .int .i64 0]) ∧ ∃ g, w' = more w g := by
  have H := Lib.hid (pgood_yes h)
  obtain rfl : c = 0 := by have := h.2; simp only at this; omega
  have n2 : 0 ≤ n ∧ n < 65536 := by have := h.2; simp only at this; omega
  clear h
  go_enter Tryd.func30, Tryd.ntmps30
  go_wp2_with (go_at_call 44; (with_reducible refine (H.out _).mono ?_); rintro e w2 ⟨rfl, g, rfl⟩)
  refine wp_region_more (by kernel_rfl) (by kernel_rfl) ?_
  repeat (first | go_big_quiet_skip | (go_big_quiet_want; go_big_quiet_op; first | go_big_quiet_on | (apply Exists.intro; refine ⟨fun _ => ?_, ?_⟩; (focus (first | (go_at_call 45; exact mo_in2 (bit_any _ _ _ (by omega))))); go_big_quiet_on)))
  refine wpQuiet_nil ?_
  intro _ hw'
  obtain ⟨gq, rfl⟩ := hw'
  go_wp2
  all_goals go_ret2
  all_goals refine ⟨As.ret_pair ?_, more_of_below (by repeat' (first | (with_reducible exact Below.refl _ _) | (with_reducible assumption) | (with_reducible refine below_more ?_ ?_ _) | (with_reducible refine below_drewN ?_ _) | (with_reducible refine Below.drew ?_) | (with_reducible refine Below.alloc ?_ ?_ _) | (with_reducible refine Below.setCell ?_ ?_ _) | go_size | (simp [more_size]; done) | (simp [more_size]; omega)))⟩
  all_goals refine (As.or_eq 16 (As.or_eq 16 (As.or_eq 20 (As.or_eq 24 (As.or_eq 28 (As.or_eq 29 (As.or_eq 30 rfl (by omega) (by omega) (by omega) (by omega) (by omega) (by omega)) (by omega) (by omega) (by omega) (by omega) (by omega) (by omega)) (by omega) (by omega) (by omega) (by omega) (by omega) (by omega)) (by omega) (by omega) (by omega) (by omega) (by omega) (by omega)) (by omega) (by omega) (by omega) (by omega) (by omega) (by omega)) (by omega) (by omega) (by omega) (by omega) (by omega) (by omega)) (by omega) (by omega) (by omega) (by omega) (by omega) (by omega)).trans ?_
  all_goals simp [As.enc, As.low, As.fl]
  all_goals omega
set_option maxRecDepth 100000 in
set_option maxHeartbeats 1600000 in
theorem penc2_any (u v : Bool) (a b c op n : Int) (a0 : 0 ≤ a) (a1 : a < 16) (b0 : 0 ≤ b) (b1 : b < 16) (c0 : 0 ≤ c) (c1 : c < 16) (o0 : 0 ≤ op) (o1 : op ≤ 11) (h : As.Good ⟨2, u, v, a, b, c, op, n⟩) (w : World) :
    Calls Tryd.prog 30 #[.agg #[.int .i64 2, .bool u, .bool v, .int .i64 a, .int .i64 b, .int .i64 c, .int .i64 op, .int .i64 n]] w fun e w' => e = .returned (.tuple #[.int .u32 (As.enc ⟨2, u, v, a, b, c, op, n⟩), .int .i64 0]) ∧ ∃ g, w' = more w g := by
  have H := Lib.hid (pgood_yes h)
  obtain ⟨rfl, rfl⟩ : c = 0 ∧ op = 0 := by have := h.2; simp only at this; omega
  clear h
  go_enter Tryd.func30, Tryd.ntmps30
  go_wp2_with (go_at_call 44; (with_reducible refine (H.out _).mono ?_); rintro e w2 ⟨rfl, g, rfl⟩)
  refine wp_region_more (by kernel_rfl) (by kernel_rfl) ?_
  repeat (first | go_big_quiet_skip | (go_big_quiet_want; go_big_quiet_op; first | go_big_quiet_on | (apply Exists.intro; refine ⟨fun _ => ?_, ?_⟩; (focus (first | (go_at_call 45; exact mo_in2 (bit_any _ _ _ (by omega))))); go_big_quiet_on)))
  refine wpQuiet_nil ?_
  intro _ hw'
  obtain ⟨gq, rfl⟩ := hw'
  go_wp2
  all_goals go_ret2
  all_goals refine ⟨As.ret_pair ?_, more_of_below (by repeat' (first | (with_reducible exact Below.refl _ _) | (with_reducible assumption) | (with_reducible refine below_more ?_ ?_ _) | (with_reducible refine below_drewN ?_ _) | (with_reducible refine Below.drew ?_) | (with_reducible refine Below.alloc ?_ ?_ _) | (with_reducible refine Below.setCell ?_ ?_ _) | go_size | (simp [more_size]; done) | (simp [more_size]; omega)))⟩
  all_goals rw [show bits .and .u32 (n % 4294967296) 1048575 = n % 1048576 by
    rw [u32_and _ _ (by omega) (by omega) (by decide) (by decide), show (1048575 : Int).toNat = 2 ^ 20 - 1 from rfl, Nat.and_two_pow_sub_one_eq_mod]
    omega]
  all_goals refine (As.or_eq 20 (As.or_eq 24 (As.or_eq 28 (As.or_eq 29 (As.or_eq 30 rfl (by omega) (by omega) (by omega) (by omega) (by omega) (by omega)) (by omega) (by omega) (by omega) (by omega) (by omega) (by omega)) (by omega) (by omega) (by omega) (by omega) (by omega) (by omega)) (by omega) (by omega) (by omega) (by omega) (by omega) (by omega)) (by omega) (by omega) (by omega) (by omega) (by omega) (by omega)).trans ?_
  all_goals simp [As.enc, As.low, As.fl]
  all_goals omega
set_option maxRecDepth 100000 in
set_option maxHeartbeats 1600000 in
theorem penc3t_any (v : Bool) (a n : Int) (a0 : 0 ≤ a) (a1 : a < 16) (h : As.Good ⟨3, true, v, a, 0, 0, 0, n⟩) (w : World) :
    Calls Tryd.prog 30 #[.agg #[.int .i64 3, .bool true, .bool v, .int .i64 a, .int .i64 0, .int .i64 0, .int .i64 0, .int .i64 n]] w fun e w' => e = .returned (.tuple #[.int .u32 (As.enc ⟨3, true, v, a, 0, 0, 0, n⟩), .int .i64 0]) ∧ ∃ g, w' = more w g := by
  have H := Lib.hid (pgood_yes h)
  clear h
  go_enter Tryd.func30, Tryd.ntmps30
  go_wp2_with (go_at_call 44; (with_reducible refine (H.out _).mono ?_); rintro e w2 ⟨rfl, g, rfl⟩)
  refine wp_region_more (by kernel_rfl) (by kernel_rfl) ?_
  repeat (first | go_big_quiet_skip | (go_big_quiet_want; go_big_quiet_op; first | go_big_quiet_on | (apply Exists.intro; refine ⟨fun _ => ?_, ?_⟩; (focus (first | (go_at_call 45; exact mo_in2 (bit_any _ _ _ (by omega))))); go_big_quiet_on)))
  refine wpQuiet_nil ?_
  intro _ hw'
  obtain ⟨gq, rfl⟩ := hw'
  go_wp2
  all_goals go_ret2
  all_goals refine ⟨As.ret_pair ?_, more_of_below (by repeat' (first | (with_reducible exact Below.refl _ _) | (with_reducible assumption) | (with_reducible refine below_more ?_ ?_ _) | (with_reducible refine below_drewN ?_ _) | (with_reducible refine Below.drew ?_) | (with_reducible refine Below.alloc ?_ ?_ _) | (with_reducible refine Below.setCell ?_ ?_ _) | go_size | (simp [more_size]; done) | (simp [more_size]; omega)))⟩
  all_goals rw [show bits .and .u32 (n % 4294967296) 16777215 = n % 16777216 by
    rw [u32_and _ _ (by omega) (by omega) (by decide) (by decide), show (16777215 : Int).toNat = 2 ^ 24 - 1 from rfl, Nat.and_two_pow_sub_one_eq_mod]
    omega]
  all_goals refine (As.or_eq 24 (As.or_eq 24 (As.or_eq 28 (As.or_eq 29 (As.or_eq 30 rfl (by omega) (by omega) (by omega) (by omega) (by omega) (by omega)) (by omega) (by omega) (by omega) (by omega) (by omega) (by omega)) (by omega) (by omega) (by omega) (by omega) (by omega) (by omega)) (by omega) (by omega) (by omega) (by omega) (by omega) (by omega)) (by omega) (by omega) (by omega) (by omega) (by omega) (by omega)).trans ?_
  all_goals simp [As.enc, As.low, As.fl]
  all_goals try omega
set_option maxRecDepth 100000 in
set_option maxHeartbeats 1600000 in
theorem penc3f_any (v : Bool) (a c : Int) (a0 : 0 ≤ a) (a1 : a < 16) (c0 : 0 ≤ c) (c1 : c < 16) (h : As.Good ⟨3, false, v, a, 0, c, 0, 0⟩) (w : World) :
    Calls Tryd.prog 30 #[.agg #[.int .i64 3, .bool false, .bool v, .int .i64 a, .int .i64 0, .int .i64 c, .int .i64 0, .int .i64 0]] w fun e w' => e = .returned (.tuple #[.int .u32 (As.enc ⟨3, false, v, a, 0, c, 0, 0⟩), .int .i64 0]) ∧ ∃ g, w' = more w g := by
  have H := Lib.hid (pgood_yes h)
  clear h
  go_enter Tryd.func30, Tryd.ntmps30
  go_wp2_with (go_at_call 44; (with_reducible refine (H.out _).mono ?_); rintro e w2 ⟨rfl, g, rfl⟩)
  refine wp_region_more (by kernel_rfl) (by kernel_rfl) ?_
  repeat (first | go_big_quiet_skip | (go_big_quiet_want; go_big_quiet_op; first | go_big_quiet_on | (apply Exists.intro; refine ⟨fun _ => ?_, ?_⟩; (focus (first | (go_at_call 45; exact mo_in2 (bit_any _ _ _ (by omega))))); go_big_quiet_on)))
  refine wpQuiet_nil ?_
  intro _ hw'
  obtain ⟨gq, rfl⟩ := hw'
  go_wp2
  all_goals go_ret2
  all_goals refine ⟨As.ret_pair ?_, more_of_below (by repeat' (first | (with_reducible exact Below.refl _ _) | (with_reducible assumption) | (with_reducible refine below_more ?_ ?_ _) | (with_reducible refine below_drewN ?_ _) | (with_reducible refine Below.drew ?_) | (with_reducible refine Below.alloc ?_ ?_ _) | (with_reducible refine Below.setCell ?_ ?_ _) | go_size | (simp [more_size]; done) | (simp [more_size]; omega)))⟩
  all_goals rw [show bits .and .u32 0 16777215 = 0 from rfl]
  all_goals refine (As.or_eq 0 (As.or_eq 24 (As.or_eq 28 (As.or_eq 29 (As.or_eq 30 rfl (by omega) (by omega) (by omega) (by omega) (by omega) (by omega)) (by omega) (by omega) (by omega) (by omega) (by omega) (by omega)) (by omega) (by omega) (by omega) (by omega) (by omega) (by omega)) (by omega) (by omega) (by omega) (by omega) (by omega) (by omega)) (by omega) (by omega) (by omega) (by omega) (by omega) (by omega)).trans ?_
  all_goals simp [As.enc, As.low, As.fl]
  all_goals try omega
theorem penc_yes {x : As.Ins} (h : As.Good x) (w : World) :
    Calls Tryd.prog 30 #[As.iv x] w fun e w' => e = .returned (.tuple #[.int .u32 (As.enc x), .int .i64 0]) ∧ ∃ g, w' = more w g := by
  have hg := h
  obtain ⟨f, u, v, a, b, c, op, n⟩ := x
  obtain ⟨⟨a0, a1, b0, b1, c0, c1, o0, o1⟩, h⟩ := h
  simp only at *
  rcases h with ⟨rfl, h⟩ | ⟨rfl, h⟩ | ⟨rfl, h⟩ | ⟨rfl, rfl, rfl, h3, h4⟩
  · exact penc0_any u v a b c op n a0 a1 b0 b1 c0 c1 o0 o1 hg w
  · exact penc1_any u v a b c op n a0 a1 b0 b1 c0 c1 o0 o1 hg w
  · exact penc2_any u v a b c op n a0 a1 b0 b1 c0 c1 o0 o1 hg w
  · cases u
    · obtain rfl := h4 rfl
      exact penc3f_any v a c a0 a1 c0 c1 hg w
    · obtain ⟨rfl, _, _⟩ := h3 rfl
      exact penc3t_any v a n a0 a1 hg w
end Go.Proofs.YtcckbmmjklahfaaDoor
