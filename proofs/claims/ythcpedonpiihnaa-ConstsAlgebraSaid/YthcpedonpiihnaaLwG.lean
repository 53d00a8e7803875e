/- The walk of the law ConstsAlgebra. Conditions: words and numbers lie in their bounds. -/
import Derived.Test.YthcpedonpiihnaaLargeW
import Derived.Test.YthcpedonpiihnaaAlgP
import Derived.Test.YthcpedonpiihnaaLt3W
import Derived.Deep.RegionWith
namespace Go.Proofs.Ythcpedonpiihnaa
set_option linter.all false
open Go.RowKit
theorem One_at {op t : ByteArray} {f n : Int} {r : Int × Int × Int} (h : Sp.oneF op.data.toList f n t.data.toList = r) (st : t.size < 4294967281) (n0 : -9223372036854775808 ≤ n) (n1 : n < 9223372036854775808) (w : World) :
    Calls Try.prog 31 #[.string op, .agg #[.int .i64 f, .int .i64 n, .string t]] w fun e w' => e = .returned (Sp.R r) ∧ ∃ g, w' = more w g :=
  (One_any op f n t w st n0 n1).mono fun e w' h' => by rw [ByteArray.toList_eq, h] at h'; exact h'
theorem Two_sets {op : ByteArray} {a b : Int} {r : Int × Int × Int} (h : Sp.twoF op.data.toList 4 a [] 4 b [] = r) (so : op.size ≤ maxLen)
    (a0 : 0 ≤ a) (a1 : a < 4294967296) (b0 : 0 ≤ b) (b1 : b < 4294967296) (w : World) :
    Calls Try.prog 18 #[.string op, .agg #[.int .i64 4, .int .i64 a, .string ⟨#[]⟩], .agg #[.int .i64 4, .int .i64 b, .string ⟨#[]⟩]] w fun e w' => e = .returned (Sp.R r) ∧ ∃ g, w' = more w g :=
  Two_at (ta := ⟨#[]⟩) (tb := ⟨#[]⟩) h (by decide) (by decide) so (by omega) (by omega) (by omega) (by omega) w
theorem Two_in {n b : Int} {r : Int × Int × Int} (h : Sp.twoF [73, 78] 1 n [] 4 b [] = r) (a0 : -9223372036854775808 ≤ n) (a1 : n < 9223372036854775808) (b0 : 0 ≤ b) (b1 : b < 4294967296) (w : World) :
    Calls Try.prog 18 #[.string ⟨#[73, 78]⟩, .agg #[.int .i64 1, .int .i64 n, .string ⟨#[]⟩], .agg #[.int .i64 4, .int .i64 b, .string ⟨#[]⟩]] w fun e w' => e = .returned (Sp.R r) ∧ ∃ g, w' = more w g :=
  Two_at (op := ⟨#[73, 78]⟩) (ta := ⟨#[]⟩) (tb := ⟨#[]⟩) h (by decide) (by decide) (by decide) (by omega) (by omega) (by omega) (by omega) w
set_option maxRecDepth 100000 in
set_option maxHeartbeats 6400000 in
theorem Algebra_out (a b n : Int) (w : World) (a0 : 0 ≤ a) (a1 : a < 4294967296) (b0 : 0 ≤ b) (b1 : b < 4294967296) (n0 : -9223372036854775808 ≤ n) (n1 : n < 9223372036854775808) (hn : Sp.fit n = false) (hc : n < -2147483648 ∨ 2147483648 ≤ n) :
    Calls Try.prog 10 #[.int .u32 a, .int .u32 b, .int .i64 n] w fun e w' => e = .returned (.bool true) ∧ Below w.heap.size w w' := by
  obtain ⟨d0, d1⟩ := Sp.sub_bd a b a0 a1 b0 b1
  obtain ⟨e0, e1⟩ := Sp.sub_bd b a b0 b1 a0 a1
  have H1 := Lib.hid (Two_sets (op := ⟨#[45]⟩) (Sp.two_sub a0 a1 b0 b1) (by decide) a0 a1 b0 b1)
  have H2 := Lib.hid (One_at (op := ⟨#[45]⟩) (t := ⟨#[]⟩) (f := 4) (n := b) (Sp.one_not b0 b1) (by decide) (by omega) (by omega))
  have H3 := Lib.hid (Two_sets (op := ⟨#[42]⟩) ((Sp.two_and (b := 4294967295 - b) a0 a1 (by omega) (by omega)).trans (by rw [Sp.sub_and a b a0 a1 b0 b1])) (by decide) a0 a1 (by omega) (by omega))
  have H4 := Lib.hid (Two_sets (op := ⟨#[45]⟩) (Sp.two_sub b0 b1 a0 a1) (by decide) b0 b1 a0 a1)
  have H5 := Lib.hid (Two_sets (op := ⟨#[43]⟩) ((Sp.two_or d0 d1 e0 e1).trans (by rw [Sp.xor_sub a b a0 a1 b0 b1])) (by decide) d0 d1 e0 e1)
  have H6 := Lib.hid (Two_sets (op := ⟨#[47]⟩) (Sp.two_xor a0 a1 b0 b1) (by decide) a0 a1 b0 b1)
  have H7 := Lib.hid (Two_in (b := a) (Sp.two_in_bad hn) n0 n1 a0 a1)
  clear hn
  generalize bits .andNot .u32 a b = D at *
  generalize bits .andNot .u32 b a = E at *
  generalize bits .xor .u32 a b = X at *
  clear d0 d1 e0 e1
  go_enter Try.func10, Try.ntmps10
  go_wp2_with (first | (go_at_call 35; refine (lset_any _ _ (by assumption) (by assumption)).mono ?_; rintro e w' ⟨rfl, g, rfl⟩) | (go_at_call 23; refine (lnum_any _ _).mono ?_; rintro e w' ⟨rfl, g, rfl⟩) | (go_at_call 31; ((with_reducible refine (H2.out _).mono ?_); rintro e w' ⟨rfl, g, rfl⟩)) | (go_at_call 18; ((with_reducible refine (H1.out _).mono ?_); rintro e w' ⟨rfl, g, rfl⟩)) | (go_at_call 18; ((with_reducible refine (H3.out _).mono ?_); rintro e w' ⟨rfl, g, rfl⟩)) | (go_at_call 18; ((with_reducible refine (H4.out _).mono ?_); rintro e w' ⟨rfl, g, rfl⟩)) | (go_at_call 18; ((with_reducible refine (H5.out _).mono ?_); rintro e w' ⟨rfl, g, rfl⟩)) | (go_at_call 18; ((with_reducible refine (H6.out _).mono ?_); rintro e w' ⟨rfl, g, rfl⟩)) | (go_at_call 18; ((with_reducible refine (H7.out _).mono ?_); rintro e w' ⟨rfl, g, rfl⟩)) | (go_at_call 20; refine (Same_eq _ _ _ _).mono ?_; rintro e w' ⟨rfl, g, rfl⟩) | (go_at_call 17; refine (wakes12_any _).mono ?_; rintro e w3 ⟨rfl, g, rfl⟩))
  go_region_with (first | (go_at_call 35; refine (lset_any _ _ (by assumption) (by assumption)).mono ?_; rintro e w' ⟨rfl, g, rfl⟩) | (go_at_call 23; refine (lnum_any _ _).mono ?_; rintro e w' ⟨rfl, g, rfl⟩) | (go_at_call 31; ((with_reducible refine (H2.out _).mono ?_); rintro e w' ⟨rfl, g, rfl⟩)) | (go_at_call 18; ((with_reducible refine (H1.out _).mono ?_); rintro e w' ⟨rfl, g, rfl⟩)) | (go_at_call 18; ((with_reducible refine (H3.out _).mono ?_); rintro e w' ⟨rfl, g, rfl⟩)) | (go_at_call 18; ((with_reducible refine (H4.out _).mono ?_); rintro e w' ⟨rfl, g, rfl⟩)) | (go_at_call 18; ((with_reducible refine (H5.out _).mono ?_); rintro e w' ⟨rfl, g, rfl⟩)) | (go_at_call 18; ((with_reducible refine (H6.out _).mono ?_); rintro e w' ⟨rfl, g, rfl⟩)) | (go_at_call 18; ((with_reducible refine (H7.out _).mono ?_); rintro e w' ⟨rfl, g, rfl⟩)) | (go_at_call 20; refine (Same_eq _ _ _ _).mono ?_; rintro e w' ⟨rfl, g, rfl⟩) | (go_at_call 17; refine (wakes12_any _).mono ?_; rintro e w3 ⟨rfl, g, rfl⟩))
  all_goals (go_wp2_with (first | (go_at_call 35; refine (lset_any _ _ (by assumption) (by assumption)).mono ?_; rintro e w' ⟨rfl, g, rfl⟩) | (go_at_call 23; refine (lnum_any _ _).mono ?_; rintro e w' ⟨rfl, g, rfl⟩) | (go_at_call 31; ((with_reducible refine (H2.out _).mono ?_); rintro e w' ⟨rfl, g, rfl⟩)) | (go_at_call 18; ((with_reducible refine (H1.out _).mono ?_); rintro e w' ⟨rfl, g, rfl⟩)) | (go_at_call 18; ((with_reducible refine (H3.out _).mono ?_); rintro e w' ⟨rfl, g, rfl⟩)) | (go_at_call 18; ((with_reducible refine (H4.out _).mono ?_); rintro e w' ⟨rfl, g, rfl⟩)) | (go_at_call 18; ((with_reducible refine (H5.out _).mono ?_); rintro e w' ⟨rfl, g, rfl⟩)) | (go_at_call 18; ((with_reducible refine (H6.out _).mono ?_); rintro e w' ⟨rfl, g, rfl⟩)) | (go_at_call 18; ((with_reducible refine (H7.out _).mono ?_); rintro e w' ⟨rfl, g, rfl⟩)) | (go_at_call 20; refine (Same_eq _ _ _ _).mono ?_; rintro e w' ⟨rfl, g, rfl⟩) | (go_at_call 17; refine (wakes12_any _).mono ?_; rintro e w3 ⟨rfl, g, rfl⟩)))
  all_goals go_ret
  all_goals exact ⟨rfl, (by repeat' (first | (with_reducible exact Below.refl _ _) | (with_reducible assumption) | (with_reducible refine below_more ?_ ?_ _) | (with_reducible refine below_drewN ?_ _) | (with_reducible refine Below.drew ?_) | (with_reducible refine Below.alloc ?_ ?_ _) | (with_reducible refine Below.setCell ?_ ?_ _) | go_size | (simp [more_size]; done) | (simp [more_size]; omega)))⟩
end Go.Proofs.Ythcpedonpiihnaa
