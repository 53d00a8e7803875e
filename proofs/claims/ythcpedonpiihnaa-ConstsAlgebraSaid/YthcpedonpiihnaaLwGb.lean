/- The walk of the law ConstsAlgebra, another case. Conditions: words and numbers lie in their bounds. -/
import Derived.Test.YthcpedonpiihnaaLwG
namespace Go.Proofs.Ythcpedonpiihnaa
set_option linter.all false
open Go.RowKit
set_option maxRecDepth 100000 in
set_option maxHeartbeats 6400000 in
theorem Algebra_far (a b n : Int) (w : World) (a0 : 0 ≤ a) (a1 : a < 4294967296) (b0 : 0 ≤ b) (b1 : b < 4294967296) (n0 : -9223372036854775808 ≤ n) (n1 : n < 9223372036854775808) (hn : Sp.fit n = true) (hc : n < 0 ∨ 31 < n) :
    Calls Try.prog 10 #[.int .u32 a, .int .u32 b, .int .i64 n] w fun e w' => e = .returned (.bool true) ∧ Below w.heap.size w w' := by
  obtain ⟨d0, d1⟩ := Sp.sub_bd a b a0 a1 b0 b1
  obtain ⟨e0, e1⟩ := Sp.sub_bd b a b0 b1 a0 a1
  have H1 := Lib.hid (Two_sets (op := ⟨#[45]⟩) (Sp.two_sub a0 a1 b0 b1) (by decide) a0 a1 b0 b1)
  have H2 := Lib.hid (One_at (op := ⟨#[45]⟩) (t := ⟨#[]⟩) (f := 4) (n := b) (Sp.one_not b0 b1) (by decide) (by omega) (by omega))
  have H3 := Lib.hid (Two_sets (op := ⟨#[42]⟩) ((Sp.two_and (b := 4294967295 - b) a0 a1 (by omega) (by omega)).trans (by rw [Sp.sub_and a b a0 a1 b0 b1])) (by decide) a0 a1 (by omega) (by omega))
  have H4 := Lib.hid (Two_sets (op := ⟨#[45]⟩) (Sp.two_sub b0 b1 a0 a1) (by decide) b0 b1 a0 a1)
  have H5 := Lib.hid (Two_sets (op := ⟨#[43]⟩) ((Sp.two_or d0 d1 e0 e1).trans (by rw [Sp.xor_sub a b a0 a1 b0 b1])) (by decide) d0 d1 e0 e1)
  have H6 := Lib.hid (Two_sets (op := ⟨#[47]⟩) (Sp.two_xor a0 a1 b0 b1) (by decide) a0 a1 b0 b1)
  have hb := (Sp.fit_iff n).1 hn
  have H7 := Lib.hid (Two_in (b := a) ((Sp.two_in a0 a1 hn).trans (show Sp.inF n a = (0, 0, 91) by unfold Sp.inF; rw [if_pos hc])) n0 n1 a0 a1)
  clear hn
  generalize bits .andNot .u32 a b = D at *
  generalize bits .andNot .u32 b a = E at *
  generalize bits .xor .u32 a b = X at *
  clear d0 d1 e0 e1
  go_enter Try.func10, Try.ntmps10
  go_wp2_with (first | (go_at_call 35; refine (lset_any _ _ (by assumption) (by assumption)).mono ?_; rintro e w' ⟨rfl, g, rfl⟩) | (go_at_call 23; refine (lnum_any _ _).mono ?_; rintro e w' ⟨rfl, g, rfl⟩) | (go_at_call 31; ((with_reducible refine (H2.out _).mono ?_); rintro e w' ⟨rfl, g, rfl⟩)) | (go_at_call 18; ((with_reducible refine (H1.out _).mono ?_); rintro e w' ⟨rfl, g, rfl⟩)) | (go_at_call 18; ((with_reducible refine (H3.out _).mono ?_); rintro e w' ⟨rfl, g, rfl⟩)) | (go_at_call 18; ((with_reducible refine (H4.out _).mono ?_); rintro e w' ⟨rfl, g, rfl⟩)) | (go_at_call 18; ((with_reducible refine (H5.out _).mono ?_); rintro e w' ⟨rfl, g, rfl⟩)) | (go_at_call 18; ((with_reducible refine (H6.out _).mono ?_); rintro e w' ⟨rfl, g, rfl⟩)) | (go_at_call 18; ((with_reducible refine (H7.out _).mono ?_); rintro e w' ⟨rfl, g, rfl⟩)) | (go_at_call 20; refine (Same_eq _ _ _ _).mono ?_; rintro e w' ⟨rfl, g, rfl⟩) | (go_at_call 17; refine (wakes12_any _).mono ?_; rintro e w3 ⟨rfl, g, rfl⟩))
  go_region_with (first | (go_at_call 35; refine (lset_any _ _ (by assumption) (by assumption)).mono ?_; rintro e w' ⟨rfl, g, rfl⟩) | (go_at_call 23; refine (lnum_any _ _).mono ?_; rintro e w' ⟨rfl, g, rfl⟩) | (go_at_call 31; ((with_reducible refine (H2.out _).mono ?_); rintro e w' ⟨rfl, g, rfl⟩)) | (go_at_call 18; ((with_reducible refine (H1.out _).mono ?_); rintro e w' ⟨rfl, g, rfl⟩)) | (go_at_call 18; ((with_reducible refine (H3.out _).mono ?_); rintro e w' ⟨rfl, g, rfl⟩)) | (go_at_call 18; ((with_reducible refine (H4.out _).mono ?_); rintro e w' ⟨rfl, g, rfl⟩)) | (go_at_call 18; ((with_reducible refine (H5.out _).mono ?_); rintro e w' ⟨rfl, g, rfl⟩)) | (go_at_call 18; ((with_reducible refine (H6.out _).mono ?_); rintro e w' ⟨rfl, g, rfl⟩)) | (go_at_call 18; ((with_reducible refine (H7.out _).mono ?_); rintro e w' ⟨rfl, g, rfl⟩)) | (go_at_call 20; refine (Same_eq _ _ _ _).mono ?_; rintro e w' ⟨rfl, g, rfl⟩) | (go_at_call 17; refine (wakes12_any _).mono ?_; rintro e w3 ⟨rfl, g, rfl⟩))
  all_goals (go_wp2_with (first | (go_at_call 35; refine (lset_any _ _ (by assumption) (by assumption)).mono ?_; rintro e w' ⟨rfl, g, rfl⟩) | (go_at_call 23; refine (lnum_any _ _).mono ?_; rintro e w' ⟨rfl, g, rfl⟩) | (go_at_call 31; ((with_reducible refine (H2.out _).mono ?_); rintro e w' ⟨rfl, g, rfl⟩)) | (go_at_call 18; ((with_reducible refine (H1.out _).mono ?_); rintro e w' ⟨rfl, g, rfl⟩)) | (go_at_call 18; ((with_reducible refine (H3.out _).mono ?_); rintro e w' ⟨rfl, g, rfl⟩)) | (go_at_call 18; ((with_reducible refine (H4.out _).mono ?_); rintro e w' ⟨rfl, g, rfl⟩)) | (go_at_call 18; ((with_reducible refine (H5.out _).mono ?_); rintro e w' ⟨rfl, g, rfl⟩)) | (go_at_call 18; ((with_reducible refine (H6.out _).mono ?_); rintro e w' ⟨rfl, g, rfl⟩)) | (go_at_call 18; ((with_reducible refine (H7.out _).mono ?_); rintro e w' ⟨rfl, g, rfl⟩)) | (go_at_call 20; refine (Same_eq _ _ _ _).mono ?_; rintro e w' ⟨rfl, g, rfl⟩) | (go_at_call 17; refine (wakes12_any _).mono ?_; rintro e w3 ⟨rfl, g, rfl⟩)))
  all_goals go_ret
  all_goals exact ⟨rfl, (by repeat' (first | (with_reducible exact Below.refl _ _) | (with_reducible assumption) | (with_reducible refine below_more ?_ ?_ _) | (with_reducible refine below_drewN ?_ _) | (with_reducible refine Below.drew ?_) | (with_reducible refine Below.alloc ?_ ?_ _) | (with_reducible refine Below.setCell ?_ ?_ _) | go_size | (simp [more_size]; done) | (simp [more_size]; omega)))⟩
end Go.Proofs.Ythcpedonpiihnaa
