/- The walks of the document's pow, may, Get, Put, Extend, Fits, Word. Conditions: words are from 0 on and below 2 to the 32nd. -/
import Derived.Test.YtcckbmmjklahfaaDoorAsA
import Derived.Test.YtcckbmmjklahfaaDoorNumP
import Derived.Test.YtcckbmmjklahfaaDoorMoreW
import Derived.BigQuiet
import Derived.Deep.QuietTactic
import Derived.WalkLawsBesides
import Derived.WalkSpells
import Derived.Handy
import Derived.Lib.Hide
namespace Go.Proofs.YtcckbmmjklahfaaDoor
set_option linter.all false
open Go.RowKit
theorem ret_int {k : IntKind} {a b : Int} (h : a = b) : Ending.returned (.int k a) = .returned (.int k b) := by rw [h]
theorem ret_bool {a b : Bool} (h : a = b) : Ending.returned (.bool a) = .returned (.bool b) := by rw [h]

theorem pow_any (n : Int) (w : World) (h0 : 0 ≤ n) (h1 : n ≤ 32) :
    Calls Tryd.prog 32 #[.int .u32 n] w fun e w' => e = .returned (.int .u64 (2 ^ n.toNat)) ∧ w = w' := by
  obtain ⟨m, rfl⟩ := Int.eq_ofNat_of_zero_le h0
  go_enter Tryd.func32, Tryd.ntmps32
  go_wp2
  go_loop [3, 4] (fun p i => ∃ k : Nat, k ≤ m ∧ i = .int .u32 k ∧ p = .int .u64 (2 ^ k)) (fun _ i => m - (intOf i).toNat)
  case atStart => exact ⟨0, Nat.zero_le _, rfl, rfl⟩
  case round =>
    obtain ⟨k, hk, rfl, rfl⟩ := hrel
    have hp := Sp.pow_bd k (by omega)
    by_cases hlt : k < m
    · go_wp2
      go_round
      case rel => exact ⟨k + 1, by omega, by go_num, by rw [Int.pow_succ]⟩
      case measure => simp [intOf]; omega
    · go_wp2
      go_ret
      have : k = m := by omega
      subst this
      exact ⟨rfl, rfl⟩

theorem may_any (a b : Int) (w : World) :
    Calls Tryd.prog 33 #[.int .i64 a, .int .i64 b] w fun e w' => e = .returned (.bool (Sp.mayB a b)) ∧ w = w' := by
  go_enter Tryd.func33, Tryd.ntmps33
  go_wp2
  all_goals
    go_ret
    exact ⟨ret_bool (by simp [Sp.mayB, *]; try omega), rfl⟩

theorem rword_any (n : Int) (w : World) :
    Calls Tryd.prog 37 #[.int .i64 n] w fun e w' => e = .returned (.int .u32 (n % 4294967296)) ∧ w = w' := by
  have h2 : -4294967296 < n.tmod 4294967296 ∧ n.tmod 4294967296 < 4294967296 ∧ n.tmod 4294967296 % 4294967296 = n % 4294967296 := by
    rw [Int.tmod_eq_emod]; split <;> omega
  go_enter Tryd.func37, Tryd.ntmps37
  go_wp2
  all_goals
    go_ret
    exact ⟨ret_int (by omega), rfl⟩

theorem q_left {P : Program} {f : FuncId} {args : Array Value} {w : World} {n : Nat} {v : Value}
    (h : Calls P f args (w.drewN n) fun e w' => e = .returned v ∧ w.drewN n = w') : Calls P f args (w.drewN n) fun e w'' => e = .returned v ∧ ∃ m, w'' = w.drewN m :=
  h.mono fun _ _ ⟨he, hm⟩ => ⟨he, n, hm.symm⟩

theorem quiet_add_left {P : Program} {f : FuncId} {args : Array Value} {w : World} {a n : Nat} {v : Value}
    (h : Calls P f args (w.drewN (a + n)) fun e w' => e = .returned v ∧ w.drewN (a + n) = w') :
    Calls P f args (w.drewN (a + n)) fun e w'' => e = .returned v ∧ ∃ m, w'' = w.drewN (a + m) :=
  h.mono fun _ _ ⟨he, hm⟩ => ⟨he, n, hm.symm⟩

theorem get_any (x lo n : Int) (w : World) (hx : 0 ≤ x) (hx1 : x < 4294967296) :
    Calls Tryd.prog 23 #[.int .u32 x, .int .i64 lo, .int .i64 n] w fun e w' => e = .returned (.int .u32 (Sp.get x lo n)) ∧ ∃ m, w' = w.drewN m := by
  by_cases h : Sp.mayB lo n = true
  · have h' := h
    simp only [Sp.mayB, decide_eq_true_eq] at h'
    obtain ⟨a, b, c, d⟩ := h'
    obtain ⟨l, rfl⟩ := Int.eq_ofNat_of_zero_le a
    obtain ⟨m, rfl⟩ := Int.eq_ofNat_of_zero_le (show 0 ≤ n by omega)
    have hp := Sp.pow_bd l (by omega)
    have hq := Sp.pow_bd m (by omega)
    go_enter Tryd.func23, Tryd.ntmps23
    go_wp2_with (first | (go_at_call 33; refine (may_any _ _ _).mono ?_; rintro e w' ⟨rfl, rfl⟩))
    go_quiet ((go_at_call 32; exact q_left (pow_any _ _ (by omega) (by omega))))
    have hd : 0 ≤ x / 2 ^ l := Int.ediv_nonneg hx (by omega)
    have he := Int.emod_nonneg (x / 2 ^ l) (b := 2 ^ m) (by omega)
    have hf := Int.emod_lt_of_pos (x / 2 ^ l) (b := 2 ^ m) (by omega)
    go_wp2
    go_ret
    exact ⟨ret_int (by rw [Int.tmod_eq_emod_of_nonneg hd, Sp.get, if_pos h]; simp only [Int.toNat_natCast]; omega), nq, rfl⟩
  · rw [Bool.not_eq_true] at h
    go_enter Tryd.func23, Tryd.ntmps23
    go_wp2_with (first | (go_at_call 33; refine (may_any _ _ _).mono ?_; rintro e w' ⟨rfl, rfl⟩))
    go_ret
    exact ⟨ret_int (by simp [Sp.get, h]), 0, rfl⟩

theorem put_any (x lo n v : Int) (w : World) (hx : 0 ≤ x) (hx1 : x < 4294967296) (hv : 0 ≤ v) (hv1 : v < 4294967296) :
    Calls Tryd.prog 35 #[.int .u32 x, .int .i64 lo, .int .i64 n, .int .u32 v] w fun e w' => e = .returned (.int .u32 (Sp.put x lo n v)) ∧ ∃ m, w' = w.drewN m := by
  by_cases h : Sp.mayB lo n = true
  · have h' := h
    simp only [Sp.mayB, decide_eq_true_eq] at h'
    obtain ⟨a, b, c, d⟩ := h'
    obtain ⟨l, rfl⟩ := Int.eq_ofNat_of_zero_le a
    obtain ⟨m, rfl⟩ := Int.eq_ofNat_of_zero_le (show 0 ≤ n by omega)
    have hp := Sp.pow_bd l (by omega)
    have hq := Sp.pow_bd m (by omega)
    obtain ⟨g0, g1⟩ := Sp.get_bd x l m hx
    obtain ⟨k0, k1⟩ := Sp.put_bd v l m (by omega)
    have g2 : 0 ≤ Sp.get x l m * 2 ^ l := Int.mul_nonneg g0 (by omega)
    have g3 : Sp.get x l m ≤ x := by
      have : Sp.get x l m * 1 ≤ Sp.get x l m * 2 ^ l := Int.mul_le_mul_of_nonneg_left (by omega) g0
      omega
    have j0 := Int.emod_nonneg v (b := 2 ^ m) (by omega)
    have j1 := Int.emod_lt_of_pos v (b := 2 ^ m) (by omega)
    go_enter Tryd.func35, Tryd.ntmps35
    go_wp2_with (first | (go_at_call 33; refine (may_any _ _ _).mono ?_; rintro e w' ⟨rfl, rfl⟩) | (go_at_call 23; refine (get_any _ _ _ _ hx hx1).mono ?_; rintro e w' ⟨rfl, nx, rfl⟩) | (go_at_call 32; refine (pow_any _ _ (by omega) (by omega)).mono ?_; rintro e w' ⟨rfl, rfl⟩))
    go_quiet ((go_at_call 32; first | exact q_left (pow_any _ _ (by omega) (by omega)) | exact quiet_add_left (pow_any _ _ (by omega) (by omega))))
    go_wp2
    go_ret
    exact ⟨ret_int (by rw [Sp.put, if_pos h]; simp only [Int.toNat_natCast]), nx + nq, World.drewN_drewN _ _ _⟩
  · rw [Bool.not_eq_true] at h
    go_enter Tryd.func35, Tryd.ntmps35
    go_wp2_with (first | (go_at_call 33; refine (may_any _ _ _).mono ?_; rintro e w' ⟨rfl, rfl⟩))
    go_ret
    exact ⟨ret_int (by simp [Sp.put, h]), 0, rfl⟩
namespace As
theorem get_num (lo n : Int) (hm : Sp.mayB lo n = true) (P Q : Int) (hP : (2 : Int) ^ lo.toNat = P) (hQ : (2 : Int) ^ n.toNat = Q) (x : Int) : Sp.get x lo n = x / P % Q := by
  unfold Sp.get; rw [if_pos hm, hP, hQ]
theorem put_num (lo n : Int) (hm : Sp.mayB lo n = true) (P Q : Int) (hP : (2 : Int) ^ lo.toNat = P) (hQ : (2 : Int) ^ n.toNat = Q) (x v : Int) (hz : x / P % Q = 0) (v0 : 0 ≤ v) (v1 : v < Q) (s0 : 0 ≤ x + v * P) (s1 : x + v * P < 4294967296) : Sp.put x lo n v = x + v * P := by
  unfold Sp.put
  rw [if_pos hm, get_num lo n hm P Q hP hQ, hz, hP, hQ, Int.emod_eq_of_lt v0 v1, Int.zero_mul, Int.sub_zero, Int.emod_eq_of_lt s0 s1]
end As
theorem rget30_2 (z : Int) (w : World) (h0 : 0 ≤ z) (h1 : z < 4294967296) : Calls Tryd.prog 23 #[.int .u32 z, .int .i64 30, .int .i64 2] w fun e w' => e = .returned (.int .u32 (z / 1073741824 % 4)) ∧ ∃ g, w' = more w g :=
  mo_drew ((get_any z 30 2 w h0 h1).mono fun e w' ⟨he, hw⟩ => ⟨by rw [he, As.get_num 30 2 (by decide) 1073741824 4 (by decide) (by decide)], hw⟩)
set_option maxRecDepth 100000 in
theorem rpart30_2 (z : Int) (w : World) (h0 : 0 ≤ z) (h1 : z < 4294967296) : Calls Tryd.prog 21 #[.int .u32 z, .int .i64 30, .int .i64 2] w fun e w' => e = .returned (.int .i64 (z / 1073741824 % 4)) ∧ ∃ g, w' = more w g := by
  have b0 : 0 ≤ z / 1073741824 % 4 := by omega
  have b1 : z / 1073741824 % 4 < 4294967296 := by omega
  have H := Lib.hid (fun w => rget30_2 z w h0 h1)
  clear h0 h1
  generalize z / 1073741824 % 4 = y at *
  go_enter Tryd.func21, Tryd.ntmps21
  go_wp2_with (go_at_call 23; (with_reducible refine (H.out _).mono ?_); rintro e w2 ⟨rfl, g, rfl⟩)
  go_ret
  exact ⟨rfl, more_of_below (by repeat' (first | (with_reducible exact Below.refl _ _) | (with_reducible assumption) | (with_reducible refine below_more ?_ ?_ _) | (with_reducible refine below_drewN ?_ _) | (with_reducible refine Below.drew ?_) | (with_reducible refine Below.alloc ?_ ?_ _) | (with_reducible refine Below.setCell ?_ ?_ _) | go_size | (simp [more_size]; done) | (simp [more_size]; omega)))⟩
theorem rput30_2 (x v : Int) (w : World) (x0 : 0 ≤ x) (x1 : x < 4294967296) (hz : x / 1073741824 % 4 = 0) (v0 : 0 ≤ v) (v1 : v < 4) (hs : x + v * 1073741824 < 4294967296) : Calls Tryd.prog 35 #[.int .u32 x, .int .i64 30, .int .i64 2, .int .u32 v] w fun e w' => e = .returned (.int .u32 (x + v * 1073741824)) ∧ ∃ g, w' = more w g :=
  mo_drew ((put_any x 30 2 v w x0 x1 v0 (by omega)).mono fun e w' ⟨he, hw⟩ => ⟨by rw [he, As.put_num 30 2 (by decide) 1073741824 4 (by decide) (by decide) x v (by omega) v0 v1 (by omega) (by omega)], hw⟩)
theorem rget29_1 (z : Int) (w : World) (h0 : 0 ≤ z) (h1 : z < 4294967296) : Calls Tryd.prog 23 #[.int .u32 z, .int .i64 29, .int .i64 1] w fun e w' => e = .returned (.int .u32 (z / 536870912 % 2)) ∧ ∃ g, w' = more w g :=
  mo_drew ((get_any z 29 1 w h0 h1).mono fun e w' ⟨he, hw⟩ => ⟨by rw [he, As.get_num 29 1 (by decide) 536870912 2 (by decide) (by decide)], hw⟩)
set_option maxRecDepth 100000 in
theorem rpart29_1 (z : Int) (w : World) (h0 : 0 ≤ z) (h1 : z < 4294967296) : Calls Tryd.prog 21 #[.int .u32 z, .int .i64 29, .int .i64 1] w fun e w' => e = .returned (.int .i64 (z / 536870912 % 2)) ∧ ∃ g, w' = more w g := by
  have b0 : 0 ≤ z / 536870912 % 2 := by omega
  have b1 : z / 536870912 % 2 < 4294967296 := by omega
  have H := Lib.hid (fun w => rget29_1 z w h0 h1)
  clear h0 h1
  generalize z / 536870912 % 2 = y at *
  go_enter Tryd.func21, Tryd.ntmps21
  go_wp2_with (go_at_call 23; (with_reducible refine (H.out _).mono ?_); rintro e w2 ⟨rfl, g, rfl⟩)
  go_ret
  exact ⟨rfl, more_of_below (by repeat' (first | (with_reducible exact Below.refl _ _) | (with_reducible assumption) | (with_reducible refine below_more ?_ ?_ _) | (with_reducible refine below_drewN ?_ _) | (with_reducible refine Below.drew ?_) | (with_reducible refine Below.alloc ?_ ?_ _) | (with_reducible refine Below.setCell ?_ ?_ _) | go_size | (simp [more_size]; done) | (simp [more_size]; omega)))⟩
theorem rput29_1 (x v : Int) (w : World) (x0 : 0 ≤ x) (x1 : x < 4294967296) (hz : x / 536870912 % 2 = 0) (v0 : 0 ≤ v) (v1 : v < 2) (hs : x + v * 536870912 < 4294967296) : Calls Tryd.prog 35 #[.int .u32 x, .int .i64 29, .int .i64 1, .int .u32 v] w fun e w' => e = .returned (.int .u32 (x + v * 536870912)) ∧ ∃ g, w' = more w g :=
  mo_drew ((put_any x 29 1 v w x0 x1 v0 (by omega)).mono fun e w' ⟨he, hw⟩ => ⟨by rw [he, As.put_num 29 1 (by decide) 536870912 2 (by decide) (by decide) x v (by omega) v0 v1 (by omega) (by omega)], hw⟩)
theorem rget28_1 (z : Int) (w : World) (h0 : 0 ≤ z) (h1 : z < 4294967296) : Calls Tryd.prog 23 #[.int .u32 z, .int .i64 28, .int .i64 1] w fun e w' => e = .returned (.int .u32 (z / 268435456 % 2)) ∧ ∃ g, w' = more w g :=
  mo_drew ((get_any z 28 1 w h0 h1).mono fun e w' ⟨he, hw⟩ => ⟨by rw [he, As.get_num 28 1 (by decide) 268435456 2 (by decide) (by decide)], hw⟩)
set_option maxRecDepth 100000 in
theorem rpart28_1 (z : Int) (w : World) (h0 : 0 ≤ z) (h1 : z < 4294967296) : Calls Tryd.prog 21 #[.int .u32 z, .int .i64 28, .int .i64 1] w fun e w' => e = .returned (.int .i64 (z / 268435456 % 2)) ∧ ∃ g, w' = more w g := by
  have b0 : 0 ≤ z / 268435456 % 2 := by omega
  have b1 : z / 268435456 % 2 < 4294967296 := by omega
  have H := Lib.hid (fun w => rget28_1 z w h0 h1)
  clear h0 h1
  generalize z / 268435456 % 2 = y at *
  go_enter Tryd.func21, Tryd.ntmps21
  go_wp2_with (go_at_call 23; (with_reducible refine (H.out _).mono ?_); rintro e w2 ⟨rfl, g, rfl⟩)
  go_ret
  exact ⟨rfl, more_of_below (by repeat' (first | (with_reducible exact Below.refl _ _) | (with_reducible assumption) | (with_reducible refine below_more ?_ ?_ _) | (with_reducible refine below_drewN ?_ _) | (with_reducible refine Below.drew ?_) | (with_reducible refine Below.alloc ?_ ?_ _) | (with_reducible refine Below.setCell ?_ ?_ _) | go_size | (simp [more_size]; done) | (simp [more_size]; omega)))⟩
theorem rput28_1 (x v : Int) (w : World) (x0 : 0 ≤ x) (x1 : x < 4294967296) (hz : x / 268435456 % 2 = 0) (v0 : 0 ≤ v) (v1 : v < 2) (hs : x + v * 268435456 < 4294967296) : Calls Tryd.prog 35 #[.int .u32 x, .int .i64 28, .int .i64 1, .int .u32 v] w fun e w' => e = .returned (.int .u32 (x + v * 268435456)) ∧ ∃ g, w' = more w g :=
  mo_drew ((put_any x 28 1 v w x0 x1 v0 (by omega)).mono fun e w' ⟨he, hw⟩ => ⟨by rw [he, As.put_num 28 1 (by decide) 268435456 2 (by decide) (by decide) x v (by omega) v0 v1 (by omega) (by omega)], hw⟩)
theorem rget24_4 (z : Int) (w : World) (h0 : 0 ≤ z) (h1 : z < 4294967296) : Calls Tryd.prog 23 #[.int .u32 z, .int .i64 24, .int .i64 4] w fun e w' => e = .returned (.int .u32 (z / 16777216 % 16)) ∧ ∃ g, w' = more w g :=
  mo_drew ((get_any z 24 4 w h0 h1).mono fun e w' ⟨he, hw⟩ => ⟨by rw [he, As.get_num 24 4 (by decide) 16777216 16 (by decide) (by decide)], hw⟩)
set_option maxRecDepth 100000 in
theorem rpart24_4 (z : Int) (w : World) (h0 : 0 ≤ z) (h1 : z < 4294967296) : Calls Tryd.prog 21 #[.int .u32 z, .int .i64 24, .int .i64 4] w fun e w' => e = .returned (.int .i64 (z / 16777216 % 16)) ∧ ∃ g, w' = more w g := by
  have b0 : 0 ≤ z / 16777216 % 16 := by omega
  have b1 : z / 16777216 % 16 < 4294967296 := by omega
  have H := Lib.hid (fun w => rget24_4 z w h0 h1)
  clear h0 h1
  generalize z / 16777216 % 16 = y at *
  go_enter Tryd.func21, Tryd.ntmps21
  go_wp2_with (go_at_call 23; (with_reducible refine (H.out _).mono ?_); rintro e w2 ⟨rfl, g, rfl⟩)
  go_ret
  exact ⟨rfl, more_of_below (by repeat' (first | (with_reducible exact Below.refl _ _) | (with_reducible assumption) | (with_reducible refine below_more ?_ ?_ _) | (with_reducible refine below_drewN ?_ _) | (with_reducible refine Below.drew ?_) | (with_reducible refine Below.alloc ?_ ?_ _) | (with_reducible refine Below.setCell ?_ ?_ _) | go_size | (simp [more_size]; done) | (simp [more_size]; omega)))⟩
theorem rput24_4 (x v : Int) (w : World) (x0 : 0 ≤ x) (x1 : x < 4294967296) (hz : x / 16777216 % 16 = 0) (v0 : 0 ≤ v) (v1 : v < 16) (hs : x + v * 16777216 < 4294967296) : Calls Tryd.prog 35 #[.int .u32 x, .int .i64 24, .int .i64 4, .int .u32 v] w fun e w' => e = .returned (.int .u32 (x + v * 16777216)) ∧ ∃ g, w' = more w g :=
  mo_drew ((put_any x 24 4 v w x0 x1 v0 (by omega)).mono fun e w' ⟨he, hw⟩ => ⟨by rw [he, As.put_num 24 4 (by decide) 16777216 16 (by decide) (by decide) x v (by omega) v0 v1 (by omega) (by omega)], hw⟩)
theorem rget20_4 (z : Int) (w : World) (h0 : 0 ≤ z) (h1 : z < 4294967296) : Calls Tryd.prog 23 #[.int .u32 z, .int .i64 20, .int .i64 4] w fun e w' => e = .returned (.int .u32 (z / 1048576 % 16)) ∧ ∃ g, w' = more w g :=
  mo_drew ((get_any z 20 4 w h0 h1).mono fun e w' ⟨he, hw⟩ => ⟨by rw [he, As.get_num 20 4 (by decide) 1048576 16 (by decide) (by decide)], hw⟩)
set_option maxRecDepth 100000 in
theorem rpart20_4 (z : Int) (w : World) (h0 : 0 ≤ z) (h1 : z < 4294967296) : Calls Tryd.prog 21 #[.int .u32 z, .int .i64 20, .int .i64 4] w fun e w' => e = .returned (.int .i64 (z / 1048576 % 16)) ∧ ∃ g, w' = more w g := by
  have b0 : 0 ≤ z / 1048576 % 16 := by omega
  have b1 : z / 1048576 % 16 < 4294967296 := by omega
  have H := Lib.hid (fun w => rget20_4 z w h0 h1)
  clear h0 h1
  generalize z / 1048576 % 16 = y at *
  go_enter Tryd.func21, Tryd.ntmps21
  go_wp2_with (go_at_call 23; (with_reducible refine (H.out _).mono ?_); rintro e w2 ⟨rfl, g, rfl⟩)
  go_ret
  exact ⟨rfl, more_of_below (by repeat' (first | (with_reducible exact Below.refl _ _) | (with_reducible assumption) | (with_reducible refine below_more ?_ ?_ _) | (with_reducible refine below_drewN ?_ _) | (with_reducible refine Below.drew ?_) | (with_reducible refine Below.alloc ?_ ?_ _) | (with_reducible refine Below.setCell ?_ ?_ _) | go_size | (simp [more_size]; done) | (simp [more_size]; omega)))⟩
theorem rput20_4 (x v : Int) (w : World) (x0 : 0 ≤ x) (x1 : x < 4294967296) (hz : x / 1048576 % 16 = 0) (v0 : 0 ≤ v) (v1 : v < 16) (hs : x + v * 1048576 < 4294967296) : Calls Tryd.prog 35 #[.int .u32 x, .int .i64 20, .int .i64 4, .int .u32 v] w fun e w' => e = .returned (.int .u32 (x + v * 1048576)) ∧ ∃ g, w' = more w g :=
  mo_drew ((put_any x 20 4 v w x0 x1 v0 (by omega)).mono fun e w' ⟨he, hw⟩ => ⟨by rw [he, As.put_num 20 4 (by decide) 1048576 16 (by decide) (by decide) x v (by omega) v0 v1 (by omega) (by omega)], hw⟩)
theorem rget16_4 (z : Int) (w : World) (h0 : 0 ≤ z) (h1 : z < 4294967296) : Calls Tryd.prog 23 #[.int .u32 z, .int .i64 16, .int .i64 4] w fun e w' => e = .returned (.int .u32 (z / 65536 % 16)) ∧ ∃ g, w' = more w g :=
  mo_drew ((get_any z 16 4 w h0 h1).mono fun e w' ⟨he, hw⟩ => ⟨by rw [he, As.get_num 16 4 (by decide) 65536 16 (by decide) (by decide)], hw⟩)
set_option maxRecDepth 100000 in
theorem rpart16_4 (z : Int) (w : World) (h0 : 0 ≤ z) (h1 : z < 4294967296) : Calls Tryd.prog 21 #[.int .u32 z, .int .i64 16, .int .i64 4] w fun e w' => e = .returned (.int .i64 (z / 65536 % 16)) ∧ ∃ g, w' = more w g := by
  have b0 : 0 ≤ z / 65536 % 16 := by omega
  have b1 : z / 65536 % 16 < 4294967296 := by omega
  have H := Lib.hid (fun w => rget16_4 z w h0 h1)
  clear h0 h1
  generalize z / 65536 % 16 = y at *
  go_enter Tryd.func21, Tryd.ntmps21
  go_wp2_with (go_at_call 23; (with_reducible refine (H.out _).mono ?_); rintro e w2 ⟨rfl, g, rfl⟩)
  go_ret
  exact ⟨rfl, more_of_below (by repeat' (first | (with_reducible exact Below.refl _ _) | (with_reducible assumption) | (with_reducible refine below_more ?_ ?_ _) | (with_reducible refine below_drewN ?_ _) | (with_reducible refine Below.drew ?_) | (with_reducible refine Below.alloc ?_ ?_ _) | (with_reducible refine Below.setCell ?_ ?_ _) | go_size | (simp [more_size]; done) | (simp [more_size]; omega)))⟩
theorem rput16_4 (x v : Int) (w : World) (x0 : 0 ≤ x) (x1 : x < 4294967296) (hz : x / 65536 % 16 = 0) (v0 : 0 ≤ v) (v1 : v < 16) (hs : x + v * 65536 < 4294967296) : Calls Tryd.prog 35 #[.int .u32 x, .int .i64 16, .int .i64 4, .int .u32 v] w fun e w' => e = .returned (.int .u32 (x + v * 65536)) ∧ ∃ g, w' = more w g :=
  mo_drew ((put_any x 16 4 v w x0 x1 v0 (by omega)).mono fun e w' ⟨he, hw⟩ => ⟨by rw [he, As.put_num 16 4 (by decide) 65536 16 (by decide) (by decide) x v (by omega) v0 v1 (by omega) (by omega)], hw⟩)
theorem rget0_4 (z : Int) (w : World) (h0 : 0 ≤ z) (h1 : z < 4294967296) : Calls Tryd.prog 23 #[.int .u32 z, .int .i64 0, .int .i64 4] w fun e w' => e = .returned (.int .u32 (z % 16)) ∧ ∃ g, w' = more w g :=
  mo_drew ((get_any z 0 4 w h0 h1).mono fun e w' ⟨he, hw⟩ => ⟨by rw [he, As.get_num 0 4 (by decide) 1 16 (by decide) (by decide)]; simp, hw⟩)
set_option maxRecDepth 100000 in
theorem rpart0_4 (z : Int) (w : World) (h0 : 0 ≤ z) (h1 : z < 4294967296) : Calls Tryd.prog 21 #[.int .u32 z, .int .i64 0, .int .i64 4] w fun e w' => e = .returned (.int .i64 (z % 16)) ∧ ∃ g, w' = more w g := by
  have b0 : 0 ≤ z % 16 := by omega
  have b1 : z % 16 < 4294967296 := by omega
  have H := Lib.hid (fun w => rget0_4 z w h0 h1)
  clear h0 h1
  generalize z % 16 = y at *
  go_enter Tryd.func21, Tryd.ntmps21
  go_wp2_with (go_at_call 23; (with_reducible refine (H.out _).mono ?_); rintro e w2 ⟨rfl, g, rfl⟩)
  go_ret
  exact ⟨rfl, more_of_below (by repeat' (first | (with_reducible exact Below.refl _ _) | (with_reducible assumption) | (with_reducible refine below_more ?_ ?_ _) | (with_reducible refine below_drewN ?_ _) | (with_reducible refine Below.drew ?_) | (with_reducible refine Below.alloc ?_ ?_ _) | (with_reducible refine Below.setCell ?_ ?_ _) | go_size | (simp [more_size]; done) | (simp [more_size]; omega)))⟩
theorem rput0_4 (x v : Int) (w : World) (x0 : 0 ≤ x) (x1 : x < 4294967296) (hz : x % 16 = 0) (v0 : 0 ≤ v) (v1 : v < 16) (hs : x + v < 4294967296) : Calls Tryd.prog 35 #[.int .u32 x, .int .i64 0, .int .i64 4, .int .u32 v] w fun e w' => e = .returned (.int .u32 (x + v)) ∧ ∃ g, w' = more w g :=
  mo_drew ((put_any x 0 4 v w x0 x1 v0 (by omega)).mono fun e w' ⟨he, hw⟩ => ⟨by rw [he, As.put_num 0 4 (by decide) 1 16 (by decide) (by decide) x v (by omega) v0 v1 (by omega) (by omega)]; simp, hw⟩)
theorem rget0_16 (z : Int) (w : World) (h0 : 0 ≤ z) (h1 : z < 4294967296) : Calls Tryd.prog 23 #[.int .u32 z, .int .i64 0, .int .i64 16] w fun e w' => e = .returned (.int .u32 (z % 65536)) ∧ ∃ g, w' = more w g :=
  mo_drew ((get_any z 0 16 w h0 h1).mono fun e w' ⟨he, hw⟩ => ⟨by rw [he, As.get_num 0 16 (by decide) 1 65536 (by decide) (by decide)]; simp, hw⟩)
set_option maxRecDepth 100000 in
theorem rpart0_16 (z : Int) (w : World) (h0 : 0 ≤ z) (h1 : z < 4294967296) : Calls Tryd.prog 21 #[.int .u32 z, .int .i64 0, .int .i64 16] w fun e w' => e = .returned (.int .i64 (z % 65536)) ∧ ∃ g, w' = more w g := by
  have b0 : 0 ≤ z % 65536 := by omega
  have b1 : z % 65536 < 4294967296 := by omega
  have H := Lib.hid (fun w => rget0_16 z w h0 h1)
  clear h0 h1
  generalize z % 65536 = y at *
  go_enter Tryd.func21, Tryd.ntmps21
  go_wp2_with (go_at_call 23; (with_reducible refine (H.out _).mono ?_); rintro e w2 ⟨rfl, g, rfl⟩)
  go_ret
  exact ⟨rfl, more_of_below (by repeat' (first | (with_reducible exact Below.refl _ _) | (with_reducible assumption) | (with_reducible refine below_more ?_ ?_ _) | (with_reducible refine below_drewN ?_ _) | (with_reducible refine Below.drew ?_) | (with_reducible refine Below.alloc ?_ ?_ _) | (with_reducible refine Below.setCell ?_ ?_ _) | go_size | (simp [more_size]; done) | (simp [more_size]; omega)))⟩
theorem rput0_16 (x v : Int) (w : World) (x0 : 0 ≤ x) (x1 : x < 4294967296) (hz : x % 65536 = 0) (v0 : 0 ≤ v) (v1 : v < 65536) (hs : x + v < 4294967296) : Calls Tryd.prog 35 #[.int .u32 x, .int .i64 0, .int .i64 16, .int .u32 v] w fun e w' => e = .returned (.int .u32 (x + v)) ∧ ∃ g, w' = more w g :=
  mo_drew ((put_any x 0 16 v w x0 x1 v0 (by omega)).mono fun e w' ⟨he, hw⟩ => ⟨by rw [he, As.put_num 0 16 (by decide) 1 65536 (by decide) (by decide) x v (by omega) v0 v1 (by omega) (by omega)]; simp, hw⟩)
theorem rget0_20 (z : Int) (w : World) (h0 : 0 ≤ z) (h1 : z < 4294967296) : Calls Tryd.prog 23 #[.int .u32 z, .int .i64 0, .int .i64 20] w fun e w' => e = .returned (.int .u32 (z % 1048576)) ∧ ∃ g, w' = more w g :=
  mo_drew ((get_any z 0 20 w h0 h1).mono fun e w' ⟨he, hw⟩ => ⟨by rw [he, As.get_num 0 20 (by decide) 1 1048576 (by decide) (by decide)]; simp, hw⟩)
theorem rput0_20 (x v : Int) (w : World) (x0 : 0 ≤ x) (x1 : x < 4294967296) (hz : x % 1048576 = 0) (v0 : 0 ≤ v) (v1 : v < 1048576) (hs : x + v < 4294967296) : Calls Tryd.prog 35 #[.int .u32 x, .int .i64 0, .int .i64 20, .int .u32 v] w fun e w' => e = .returned (.int .u32 (x + v)) ∧ ∃ g, w' = more w g :=
  mo_drew ((put_any x 0 20 v w x0 x1 v0 (by omega)).mono fun e w' ⟨he, hw⟩ => ⟨by rw [he, As.put_num 0 20 (by decide) 1 1048576 (by decide) (by decide) x v (by omega) v0 v1 (by omega) (by omega)]; simp, hw⟩)
theorem rget0_24 (z : Int) (w : World) (h0 : 0 ≤ z) (h1 : z < 4294967296) : Calls Tryd.prog 23 #[.int .u32 z, .int .i64 0, .int .i64 24] w fun e w' => e = .returned (.int .u32 (z % 16777216)) ∧ ∃ g, w' = more w g :=
  mo_drew ((get_any z 0 24 w h0 h1).mono fun e w' ⟨he, hw⟩ => ⟨by rw [he, As.get_num 0 24 (by decide) 1 16777216 (by decide) (by decide)]; simp, hw⟩)
theorem rput0_24 (x v : Int) (w : World) (x0 : 0 ≤ x) (x1 : x < 4294967296) (hz : x % 16777216 = 0) (v0 : 0 ≤ v) (v1 : v < 16777216) (hs : x + v < 4294967296) : Calls Tryd.prog 35 #[.int .u32 x, .int .i64 0, .int .i64 24, .int .u32 v] w fun e w' => e = .returned (.int .u32 (x + v)) ∧ ∃ g, w' = more w g :=
  mo_drew ((put_any x 0 24 v w x0 x1 v0 (by omega)).mono fun e w' ⟨he, hw⟩ => ⟨by rw [he, As.put_num 0 24 (by decide) 1 16777216 (by decide) (by decide) x v (by omega) v0 v1 (by omega) (by omega)]; simp, hw⟩)
set_option maxRecDepth 100000 in
theorem rfits20_any (z : Int) (w : World) :
    Calls Tryd.prog 48 #[.int .i64 z, .int .i64 20] w fun e w' => e = .returned (.bool (decide (-524288 ≤ z) && decide (z < 524288))) ∧ ∃ g, w' = more w g := by
  go_enter Tryd.func48, Tryd.ntmps48
  go_wp2_with (go_at_call 32; refine (pow_any _ _ (by omega) (by omega)).mono ?_; rintro e w' ⟨rfl, rfl⟩)
  all_goals go_ret
  all_goals exact ⟨ret_bool (by simp [*]; try omega), more_refl _⟩
set_option maxRecDepth 100000 in
theorem rext20_any (z : Int) (w : World) (h0 : 0 ≤ z) (h1 : z < 1048576) :
    Calls Tryd.prog 22 #[.int .u32 z, .int .i64 20] w fun e w' => e = .returned (.int .i64 (As.ext 1048576 z)) ∧ ∃ g, w' = more w g := by
  have ht : z.tmod 1048576 = z := Int.tmod_eq_of_lt h0 h1
  go_enter Tryd.func22, Tryd.ntmps22
  go_wp2_with (go_at_call 32; refine (pow_any _ _ (by omega) (by omega)).mono ?_; rintro e w' ⟨rfl, rfl⟩)
  all_goals go_ret
  all_goals exact ⟨ret_int (by unfold As.ext; split <;> omega), more_refl _⟩
set_option maxRecDepth 100000 in
theorem rfits24_any (z : Int) (w : World) :
    Calls Tryd.prog 48 #[.int .i64 z, .int .i64 24] w fun e w' => e = .returned (.bool (decide (-8388608 ≤ z) && decide (z < 8388608))) ∧ ∃ g, w' = more w g := by
  go_enter Tryd.func48, Tryd.ntmps48
  go_wp2_with (go_at_call 32; refine (pow_any _ _ (by omega) (by omega)).mono ?_; rintro e w' ⟨rfl, rfl⟩)
  all_goals go_ret
  all_goals exact ⟨ret_bool (by simp [*]; try omega), more_refl _⟩
set_option maxRecDepth 100000 in
theorem rext24_any (z : Int) (w : World) (h0 : 0 ≤ z) (h1 : z < 16777216) :
    Calls Tryd.prog 22 #[.int .u32 z, .int .i64 24] w fun e w' => e = .returned (.int .i64 (As.ext 16777216 z)) ∧ ∃ g, w' = more w g := by
  have ht : z.tmod 16777216 = z := Int.tmod_eq_of_lt h0 h1
  go_enter Tryd.func22, Tryd.ntmps22
  go_wp2_with (go_at_call 32; refine (pow_any _ _ (by omega) (by omega)).mono ?_; rintro e w' ⟨rfl, rfl⟩)
  all_goals go_ret
  all_goals exact ⟨ret_int (by unfold As.ext; split <;> omega), more_refl _⟩
end Go.Proofs.YtcckbmmjklahfaaDoor
