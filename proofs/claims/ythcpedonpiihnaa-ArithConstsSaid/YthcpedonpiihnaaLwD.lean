/- The walks of the laws ConstsDivides and ConstsOne. Conditions: numbers lie in their bounds; a sign is no longer than a text may be. -/
import Derived.Test.YthcpedonpiihnaaLargeW
namespace Go.Proofs.Ythcpedonpiihnaa
set_option linter.all false
open Go.RowKit
namespace Sp
theorem good_int (n : Int) : good 1 n [] = fit n := by simp [good]
theorem two_div (a b : Int) (ha : fit a = true) (hb : fit b = true) : twoF [68, 73, 86] 1 a [] 1 b [] = divF a b true := by
  simp [twoF, good_int, ha, hb, core]
theorem two_mod (a b : Int) (ha : fit a = true) (hb : fit b = true) : twoF [77, 79, 68] 1 a [] 1 b [] = divF a b false := by
  simp [twoF, good_int, ha, hb, core]
theorem two_out (op : List UInt8) (a b : Int) (h : (fit a && fit b) = false) : twoF op 1 a [] 1 b [] = (0, 0, 120) := by
  simp only [twoF, good_int, h]; rfl
end Sp
theorem Two_ints {op : ByteArray} {a b : Int} {r : Int × Int × Int} (h : Sp.twoF op.data.toList 1 a [] 1 b [] = r) (so : op.size ≤ maxLen)
    (a0 : -9223372036854775808 ≤ a) (a1 : a < 9223372036854775808) (b0 : -9223372036854775808 ≤ b) (b1 : b < 9223372036854775808) (w : World) :
    Calls Try.prog 18 #[.string op, .agg #[.int .i64 1, .int .i64 a, .string ⟨#[]⟩], .agg #[.int .i64 1, .int .i64 b, .string ⟨#[]⟩]] w fun e w' => e = .returned (Sp.R r) ∧ ∃ g, w' = more w g :=
  Two_at (ta := ⟨#[]⟩) (tb := ⟨#[]⟩) h (by decide) (by decide) so a0 a1 b0 b1 w
set_option maxRecDepth 100000 in
set_option maxHeartbeats 1600000 in
theorem ConstsDivides_any (a b : Int) (w : World) (a0 : -9223372036854775808 ≤ a) (a1 : a < 9223372036854775808) (b0 : -9223372036854775808 ≤ b) (b1 : b < 9223372036854775808) :
    Calls Try.prog 5 #[.int .i64 a, .int .i64 b] w fun e w' => e = .returned (.bool true) ∧ Below w.heap.size w w' := by
  cases hab : Sp.fit a && Sp.fit b
  · have H1 := Lib.hid (Two_ints (op := ⟨#[43]⟩) (Sp.two_out [43] a b hab) (by decide) a0 a1 b0 b1)
    have ho : a < -2147483648 ∨ 2147483648 ≤ a ∨ b < -2147483648 ∨ 2147483648 ≤ b := by
      rw [Bool.and_eq_false_iff, Sp.fit_false, Sp.fit_false] at hab
      omega
    clear hab
    by_cases c1 : a < -2147483648
    · clear ho
      go_enter Try.func5, Try.ntmps5
      go_wp2_with (first | (go_at_call 23; refine (lnum_any _ _).mono ?_; rintro e w' ⟨rfl, g, rfl⟩) | (go_at_call 18; ((with_reducible refine (H1.out _).mono ?_); rintro e w' ⟨rfl, g, rfl⟩)) | (go_at_call 17; refine (wakes12_any _).mono ?_; rintro e w3 ⟨rfl, g, rfl⟩))
      go_ret
      exact ⟨rfl, (by repeat' (first | (with_reducible exact Below.refl _ _) | (with_reducible assumption) | (with_reducible refine below_more ?_ ?_ _) | (with_reducible refine below_drewN ?_ _) | (with_reducible refine Below.drew ?_) | (with_reducible refine Below.alloc ?_ ?_ _) | (with_reducible refine Below.setCell ?_ ?_ _) | go_size | (simp [more_size]; done) | (simp [more_size]; omega)))⟩
    · by_cases c2 : 2147483648 ≤ a
      · clear ho
        go_enter Try.func5, Try.ntmps5
        go_wp2_with (first | (go_at_call 23; refine (lnum_any _ _).mono ?_; rintro e w' ⟨rfl, g, rfl⟩) | (go_at_call 18; ((with_reducible refine (H1.out _).mono ?_); rintro e w' ⟨rfl, g, rfl⟩)) | (go_at_call 17; refine (wakes12_any _).mono ?_; rintro e w3 ⟨rfl, g, rfl⟩))
        go_ret
        exact ⟨rfl, (by repeat' (first | (with_reducible exact Below.refl _ _) | (with_reducible assumption) | (with_reducible refine below_more ?_ ?_ _) | (with_reducible refine below_drewN ?_ _) | (with_reducible refine Below.drew ?_) | (with_reducible refine Below.alloc ?_ ?_ _) | (with_reducible refine Below.setCell ?_ ?_ _) | go_size | (simp [more_size]; done) | (simp [more_size]; omega)))⟩
      · by_cases c3 : b < -2147483648
        · clear ho
          go_enter Try.func5, Try.ntmps5
          go_wp2_with (first | (go_at_call 23; refine (lnum_any _ _).mono ?_; rintro e w' ⟨rfl, g, rfl⟩) | (go_at_call 18; ((with_reducible refine (H1.out _).mono ?_); rintro e w' ⟨rfl, g, rfl⟩)) | (go_at_call 17; refine (wakes12_any _).mono ?_; rintro e w3 ⟨rfl, g, rfl⟩))
          go_ret
          exact ⟨rfl, (by repeat' (first | (with_reducible exact Below.refl _ _) | (with_reducible assumption) | (with_reducible refine below_more ?_ ?_ _) | (with_reducible refine below_drewN ?_ _) | (with_reducible refine Below.drew ?_) | (with_reducible refine Below.alloc ?_ ?_ _) | (with_reducible refine Below.setCell ?_ ?_ _) | go_size | (simp [more_size]; done) | (simp [more_size]; omega)))⟩
        · have c4 : 2147483648 ≤ b := by omega
          clear ho
          go_enter Try.func5, Try.ntmps5
          go_wp2_with (first | (go_at_call 23; refine (lnum_any _ _).mono ?_; rintro e w' ⟨rfl, g, rfl⟩) | (go_at_call 18; ((with_reducible refine (H1.out _).mono ?_); rintro e w' ⟨rfl, g, rfl⟩)) | (go_at_call 17; refine (wakes12_any _).mono ?_; rintro e w3 ⟨rfl, g, rfl⟩))
          go_ret
          exact ⟨rfl, (by repeat' (first | (with_reducible exact Below.refl _ _) | (with_reducible assumption) | (with_reducible refine below_more ?_ ?_ _) | (with_reducible refine below_drewN ?_ _) | (with_reducible refine Below.drew ?_) | (with_reducible refine Below.alloc ?_ ?_ _) | (with_reducible refine Below.setCell ?_ ?_ _) | go_size | (simp [more_size]; done) | (simp [more_size]; omega)))⟩
  · obtain ⟨fa, fb⟩ := Bool.and_eq_true _ _ ▸ hab
    have ha := (Sp.fit_iff a).1 fa
    have hb := (Sp.fit_iff b).1 fb
    have HD := Sp.two_div a b fa fb
    have HM := Sp.two_mod a b fa fb
    have c1 : ¬ a < -2147483648 := by omega
    have c2 : ¬ 2147483648 ≤ a := by omega
    have c3 : ¬ b < -2147483648 := by omega
    have c4 : ¬ 2147483648 ≤ b := by omega
    clear hab
    by_cases hb0 : b ≤ 0
    · have H1 := Lib.hid (Two_ints (op := ⟨#[68, 73, 86]⟩) (r := (0, 0, 121)) (HD.trans (by simp [Sp.divF, hb0])) (by decide) a0 a1 b0 b1)
      have H2 := Lib.hid (Two_ints (op := ⟨#[77, 79, 68]⟩) (r := (0, 0, 121)) (HM.trans (by simp [Sp.divF, hb0])) (by decide) a0 a1 b0 b1)
      clear HD HM
      go_enter Try.func5, Try.ntmps5
      go_wp2_with (first | (go_at_call 23; refine (lnum_any _ _).mono ?_; rintro e w' ⟨rfl, g, rfl⟩) | (go_at_call 18; ((with_reducible refine (H1.out _).mono ?_); rintro e w' ⟨rfl, g, rfl⟩)) | (go_at_call 18; ((with_reducible refine (H2.out _).mono ?_); rintro e w' ⟨rfl, g, rfl⟩)) | (go_at_call 17; refine (wakes12_any _).mono ?_; rintro e w3 ⟨rfl, g, rfl⟩))
      go_ret
      exact ⟨rfl, (by repeat' (first | (with_reducible exact Below.refl _ _) | (with_reducible assumption) | (with_reducible refine below_more ?_ ?_ _) | (with_reducible refine below_drewN ?_ _) | (with_reducible refine Below.drew ?_) | (with_reducible refine Below.alloc ?_ ?_ _) | (with_reducible refine Below.setCell ?_ ?_ _) | go_size | (simp [more_size]; done) | (simp [more_size]; omega)))⟩
    · have H1 := Lib.hid (Two_ints (op := ⟨#[68, 73, 86]⟩) (r := (1, a / b, 0)) (HD.trans (by simp [Sp.divF, hb0])) (by decide) a0 a1 b0 b1)
      have H2 := Lib.hid (Two_ints (op := ⟨#[77, 79, 68]⟩) (r := (1, a % b, 0)) (HM.trans (by simp [Sp.divF, hb0])) (by decide) a0 a1 b0 b1)
      have m0 := Int.emod_nonneg a (b := b) (by omega)
      have m1 := Int.emod_lt_of_pos a (show 0 < b by omega)
      have hsum : a / b * b + a % b = a := by rw [Int.mul_comm]; exact Int.mul_ediv_add_emod a b
      have hp : -4294967296 ≤ a / b * b ∧ a / b * b ≤ 4294967296 := by omega
      have hq := (Sp.fit_iff _).1 (Sp.div_ok a b ha (by omega))
      clear HD HM
      generalize a / b = q at *
      generalize a % b = m at *
      obtain ⟨hp0, hp1⟩ := hp
      go_enter Try.func5, Try.ntmps5
      go_wp2_with (first | (go_at_call 23; refine (lnum_any _ _).mono ?_; rintro e w' ⟨rfl, g, rfl⟩) | (go_at_call 18; ((with_reducible refine (H1.out _).mono ?_); rintro e w' ⟨rfl, g, rfl⟩)) | (go_at_call 18; ((with_reducible refine (H2.out _).mono ?_); rintro e w' ⟨rfl, g, rfl⟩)) | (go_at_call 17; refine (wakes12_any _).mono ?_; rintro e w3 ⟨rfl, g, rfl⟩))
      go_ret
      exact ⟨rfl, (by repeat' (first | (with_reducible exact Below.refl _ _) | (with_reducible assumption) | (with_reducible refine below_more ?_ ?_ _) | (with_reducible refine below_drewN ?_ _) | (with_reducible refine Below.drew ?_) | (with_reducible refine Below.alloc ?_ ?_ _) | (with_reducible refine Below.setCell ?_ ?_ _) | go_size | (simp [more_size]; done) | (simp [more_size]; omega)))⟩
set_option maxRecDepth 100000 in
set_option maxHeartbeats 1600000 in
theorem ConstsOne_any (op : ByteArray) (f n : Int) (t : ByteArray) (w : World) (a0 : -9223372036854775808 ≤ n) (a1 : n < 9223372036854775808) :
    Calls Try.prog 9 #[.string op, .agg #[.int .i64 f, .int .i64 n, .string t]] w fun e w' => e = .returned (.bool true) ∧ Below w.heap.size w w' := by
  have hL : Sp.large [(f, n, t)] = decide (5000 < t.size) := by simp [Sp.large]
  by_cases h : 5000 < t.size
  · rw [decide_eq_true h] at hL
    clear h
    go_enter Try.func9, Try.ntmps9
    go_wp2_with fail
    refine (large_any _ [(f, n, t)] _ (reads_1 ?_ (by decide) (by decide) ?_ ?_ ?_)).mono ?_
    all_goals try (simp [go_sem]; done)
    rintro e w' ⟨rfl, rfl⟩
    go_wp2_with (first | (go_at_call 17; refine (wakes12_any _).mono ?_; rintro e w3 ⟨rfl, g, rfl⟩))
    go_ret
    exact ⟨rfl, (by repeat' (first | (with_reducible exact Below.refl _ _) | (with_reducible assumption) | (with_reducible refine below_more ?_ ?_ _) | (with_reducible refine below_drewN ?_ _) | (with_reducible refine Below.drew ?_) | (with_reducible refine Below.alloc ?_ ?_ _) | (with_reducible refine Below.setCell ?_ ?_ _) | go_size | (simp [more_size]; done) | (simp [more_size]; omega)))⟩
  · rw [decide_eq_false h] at hL
    have sa : t.size < 4294967281 := by omega
    clear h
    have TW := Lib.hid (One_any op f n t (st := sa) (n0 := a0) (n1 := a1))
    have RT := Lib.hid (rOne_any op f n t (st := sa) (n0 := a0) (n1 := a1))
    have GW := Lib.hid (Good_any f n t (hs := sa) (h0 := a0) (h1 := a1))
    have RG := Lib.hid (rGood_any f n t (hs := sa) (h0 := a0) (h1 := a1))
    generalize Sp.oneF op.toList f n t.data.toList = r at *
    generalize Sp.good f n t.data.toList = gd at *
    go_enter Try.func9, Try.ntmps9
    go_wp2_with fail
    refine (large_any _ [(f, n, t)] _ (reads_1 ?_ (by decide) (by decide) ?_ ?_ ?_)).mono ?_
    all_goals try (simp [go_sem]; done)
    rintro e w' ⟨rfl, rfl⟩
    go_wp2_with (first | (go_at_call 31; ((with_reducible refine (TW.out _).mono ?_); rintro e w' ⟨rfl, g, rfl⟩)) | (go_at_call 32; ((with_reducible refine (RT.out _).mono ?_); rintro e w' ⟨rfl, g, rfl⟩)))
    refine wp_region_more (by kernel_rfl) (by kernel_rfl) ?_
    repeat (first | go_big_quiet_skip | (go_big_quiet_want; go_big_quiet_op; first | go_big_quiet_on | (apply Exists.intro; refine ⟨fun _ => ?_, ?_⟩; (focus (first | (go_at_call 20; exact mo_in (Same_eq _ _ _ _)) | (go_at_call 33; exact mo_in (GW.out _)) | (go_at_call 34; exact mo_in (RG.out _)) | (go_at_call 17; exact mo_in (wakes12_any _)))); go_big_quiet_on)))
    refine wpQuiet_nil ?_
    intro _ hw'
    obtain ⟨gq, rfl⟩ := hw'
    go_wp2
    go_ret
    exact ⟨rfl, (by repeat' (first | (with_reducible exact Below.refl _ _) | (with_reducible assumption) | (with_reducible refine below_more ?_ ?_ _) | (with_reducible refine below_drewN ?_ _) | (with_reducible refine Below.drew ?_) | (with_reducible refine Below.alloc ?_ ?_ _) | (with_reducible refine Below.setCell ?_ ?_ _) | go_size | (simp [more_size]; done) | (simp [more_size]; omega)))⟩
end Go.Proofs.Ythcpedonpiihnaa
