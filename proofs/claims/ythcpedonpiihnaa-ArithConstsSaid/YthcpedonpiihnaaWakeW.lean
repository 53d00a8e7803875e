/- The waking call of layer 12. Conditions: none. -/
import Derived.Test.YthcpedonpiihnaaConJ
import Derived.Test.YthcpedonpiihnaaSetW
import Derived.Test.YthcpedonpiihnaaLt2W
import Derived.Deep.RegionWith
namespace Go.Proofs.Ythcpedonpiihnaa
set_option linter.all false
open Go.RowKit
theorem lnum_any (n : Int) (w : World) :
    Calls Try.prog 23 #[.int .i64 n] w fun e w' => e = .returned (Sp.V 1 n) ∧ ∃ g, w' = more w g := by
  go_enter Try.func23, Try.ntmps23
  go_wp2
  go_returns
  exact ⟨rfl, more_of_below (by repeat' (first | (with_reducible exact Below.refl _ _) | (with_reducible assumption) | (with_reducible refine below_more ?_ ?_ _) | (with_reducible refine below_drewN ?_ _) | (with_reducible refine Below.drew ?_) | (with_reducible refine Below.alloc ?_ ?_ _) | (with_reducible refine Below.setCell ?_ ?_ _) | go_size | (simp [more_size]; done) | (simp [more_size]; omega)))⟩
theorem lset_any (n : Int) (w : World) (h0 : 0 ≤ n) (h1 : n < 4294967296) :
    Calls Try.prog 35 #[.int .u32 n] w fun e w' => e = .returned (Sp.V 4 n) ∧ ∃ g, w' = more w g := by
  go_enter Try.func35, Try.ntmps35
  go_wp2
  go_returns
  exact ⟨rfl, more_of_below (by repeat' (first | (with_reducible exact Below.refl _ _) | (with_reducible assumption) | (with_reducible refine below_more ?_ ?_ _) | (with_reducible refine below_drewN ?_ _) | (with_reducible refine Below.drew ?_) | (with_reducible refine Below.alloc ?_ ?_ _) | (with_reducible refine Below.setCell ?_ ?_ _) | go_size | (simp [more_size]; done) | (simp [more_size]; omega)))⟩
theorem Two_at {op ta tb : ByteArray} {fa na fb nb : Int} {r : Int × Int × Int} (h : Sp.twoF op.data.toList fa na ta.data.toList fb nb tb.data.toList = r) (sa : ta.size < 4294967281) (sb : tb.size < 4294967281) (so : op.size ≤ maxLen)
    (a0 : -9223372036854775808 ≤ na) (a1 : na < 9223372036854775808) (b0 : -9223372036854775808 ≤ nb) (b1 : nb < 9223372036854775808) (w : World) :
    Calls Try.prog 18 #[.string op, .agg #[.int .i64 fa, .int .i64 na, .string ta], .agg #[.int .i64 fb, .int .i64 nb, .string tb]] w fun e w' => e = .returned (Sp.R r) ∧ ∃ g, w' = more w g :=
  (Two_any op fa na fb nb ta tb w sa sb so a0 a1 b0 b1).mono fun e w' h' => by rw [h] at h'; exact h'
theorem set_at {v : Value} {ps : List (Int × Int)} {r : Int × Int × Int} (h : Sp.setL ps 0 = r) (hn : ps.length ≤ 2000) (w : World) (hR : Reads w v ps.length 2 (pairCells ps)) :
    Calls Try.prog 21 #[v] w fun e w' => e = .returned (Sp.R r) ∧ ∃ g, w' = more w g :=
  (Set_any v ps w hR hn).mono fun e w' h' => by rw [h] at h'; exact h'
set_option maxRecDepth 100000 in
set_option maxHeartbeats 1600000 in
theorem wakes12_any (w : World) :
    Calls Try.prog 17 #[] w fun e w' => e = .returned (.bool true) ∧ ∃ g, w' = more w g := by
  have H1 := Lib.hid (Two_at (op := ⟨#[68, 73, 86]⟩) (fa := 1) (na := -7) (fb := 1) (nb := 2) (ta := ⟨#[]⟩) (tb := ⟨#[]⟩) (r := (1, -4, 0)) (by decide +kernel) (by decide) (by decide) (by decide) (by decide) (by decide) (by decide) (by decide))
  have H2 := Lib.hid (Two_at (op := ⟨#[68, 73, 86]⟩) (fa := 1) (na := 1) (fb := 1) (nb := 0) (ta := ⟨#[]⟩) (tb := ⟨#[]⟩) (r := (0, 0, 121)) (by decide +kernel) (by decide) (by decide) (by decide) (by decide) (by decide) (by decide) (by decide))
  have H3 := Lib.hid (Two_at (op := ⟨#[42]⟩) (fa := 4) (na := 15) (fb := 4) (nb := 36) (ta := ⟨#[]⟩) (tb := ⟨#[]⟩) (r := (4, 4, 0)) (by decide +kernel) (by decide) (by decide) (by decide) (by decide) (by decide) (by decide) (by decide))
  have HS := Lib.hid (show Sp.setL [(0, 3)] 0 = (4, 15, 0) by decide +kernel)
  go_enter Try.func17, Try.ntmps17
  go_wp2_with (first | (go_at_call 23; refine (lnum_any _ _).mono ?_; rintro e w' ⟨rfl, g, rfl⟩) | (go_at_call 18; ((with_reducible refine (H1.out _).mono ?_); rintro e w' ⟨rfl, g, rfl⟩)) | (go_at_call 18; ((with_reducible refine (H2.out _).mono ?_); rintro e w' ⟨rfl, g, rfl⟩)))
  refine (set_at HS.out (by decide) _ ⟨rfl, .inr ⟨_, _, _, rfl, by decide, by decide, ?_, ?_⟩⟩).mono ?_
  · first | (simp [more_size]; done) | (simp [more_size]; omega)
  · intro j u hu
    have : j < 2 := by
      have := (List.getElem?_eq_some_iff.1 hu).1
      simpa [pairCells] using this
    have : j = 0 ∨ j = 1 := by omega
    rcases this with rfl | rfl
    · simp [pairCells] at hu; subst hu; simp [go_sem]
    · simp [pairCells] at hu; subst hu; simp [go_sem]
  rintro e w' ⟨rfl, g, rfl⟩
  go_wp2_with fail
  go_region_with (first | (go_at_call 35; refine (lset_any _ _ (by decide) (by decide)).mono ?_; rintro e w' ⟨rfl, g, rfl⟩) | (go_at_call 18; ((with_reducible refine (H3.out _).mono ?_); rintro e w' ⟨rfl, g, rfl⟩)))
  all_goals go_wp2
  all_goals go_ret
  all_goals exact ⟨rfl, more_of_below (by repeat' (first | (with_reducible exact Below.refl _ _) | (with_reducible assumption) | (with_reducible refine below_more ?_ ?_ _) | (with_reducible refine below_drewN ?_ _) | (with_reducible refine Below.drew ?_) | (with_reducible refine Below.alloc ?_ ?_ _) | (with_reducible refine Below.setCell ?_ ?_ _) | go_size | (simp [more_size]; done) | (simp [more_size]; omega)))⟩
end Go.Proofs.Ythcpedonpiihnaa
