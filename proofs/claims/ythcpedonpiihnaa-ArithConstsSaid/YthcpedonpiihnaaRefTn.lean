/- The walk of the document's operation of two constants (ref12.Two), one case. Written by gen_rtwo.py. Conditions: numbers lie in their bounds; texts are shorter than a text may be. -/
import Derived.Test.YthcpedonpiihnaaRefT
namespace Go.Proofs.Ythcpedonpiihnaa
set_option linter.all false
open Go.RowKit
set_option maxRecDepth 100000 in
set_option maxHeartbeats 6400000 in
theorem rTwo_n (op : ByteArray) (fa na fb nb : Int) (ta tb : ByteArray) (w : World) (sa : ta.size < 4294967281) (sb : tb.size < 4294967281) (a0 : -9223372036854775808 ≤ na) (a1 : na < 9223372036854775808) (b0 : -9223372036854775808 ≤ nb) (b1 : nb < 9223372036854775808)
    (ga : Sp.good fa na ta.data.toList = true) (gb : Sp.good fb nb tb.data.toList = true) (ha : (fa == 3) = false) (hb : (fb == 3) = false) (hn : (fa != fb) = true) :
    Calls Try.prog 19 #[.string op, .agg #[.int .i64 fa, .int .i64 na, .string ta], .agg #[.int .i64 fb, .int .i64 nb, .string tb]] w fun e w' => e = .returned (Sp.R (Sp.rrest op.toList fa na ta.data.toList fb nb tb.data.toList)) ∧ ∃ g, w' = more w g := by
  by_cases h1 : fa = 1
  · subst h1
    by_cases h4 : fb = 4
    · subst h4
      clear ha hb hn
      obtain ⟨xb0, xb1⟩ := Sp.good_4 gb
      go_enter Try.func19, Try.ntmps19
      go_wp2_with (first | (go_at_call 34; refine (rGood_any _ _ _ _ (by assumption) (by assumption) (by assumption)).mono ?_; rintro e w' ⟨rfl, g, rfl⟩) | (go_at_call 54; refine (rnone_any _).mono ?_; rintro e w' ⟨rfl, g, rfl⟩) | (go_at_call 56; refine (rtruth_any _ _).mono ?_; rintro e w' ⟨rfl, g, rfl⟩) | (go_at_call 58; refine (order_any _ _ _).mono ?_; rintro e w' ⟨rfl, g, rfl⟩) | (go_at_call 59; refine (rrelate_any _ _ _).mono ?_; rintro e w' ⟨rfl, rfl⟩) | (go_at_call 60; refine (rints_any _ _ _ _ (by assumption) (by assumption)).mono ?_; rintro e w' ⟨rfl, g, rfl⟩) | (go_at_call 61; refine (rsetop_any _ _ _ _).mono ?_; rintro e w' ⟨rfl, rfl⟩) | (go_at_call 62; refine (rcset_any _ _ (by assumption) (by assumption)).mono ?_; rintro e w' ⟨rfl, g, rfl⟩) | (go_at_call 57; refine (get_any _ _ _ _ (by omega) (by omega)).mono ?_; rintro e w' ⟨rfl, n, rfl⟩))
      all_goals
        go_returns
        exact ⟨by first | (simp [Sp.rrest, *]; done) | (simp [Sp.rrest, Sp.rel, *]; done) | (exfalso; simp_all; done) | (simp [Sp.rrest, *]; rw [if_neg (by omega)]; simp; done), more_of_below (by repeat' (first | (with_reducible exact Below.refl _ _) | (with_reducible assumption) | (with_reducible refine below_more ?_ ?_ _) | (with_reducible refine below_drewN ?_ _) | (with_reducible refine Below.drew ?_) | (with_reducible refine Below.alloc ?_ ?_ _) | (with_reducible refine Below.setCell ?_ ?_ _) | go_size | (simp [more_size]; done) | (simp [more_size]; omega)))⟩
    · have h4' : (fb == 4) = false := by simpa using h4
      clear h4
      go_enter Try.func19, Try.ntmps19
      go_wp2_with (first | (go_at_call 34; refine (rGood_any _ _ _ _ (by assumption) (by assumption) (by assumption)).mono ?_; rintro e w' ⟨rfl, g, rfl⟩) | (go_at_call 54; refine (rnone_any _).mono ?_; rintro e w' ⟨rfl, g, rfl⟩) | (go_at_call 56; refine (rtruth_any _ _).mono ?_; rintro e w' ⟨rfl, g, rfl⟩) | (go_at_call 58; refine (order_any _ _ _).mono ?_; rintro e w' ⟨rfl, g, rfl⟩) | (go_at_call 59; refine (rrelate_any _ _ _).mono ?_; rintro e w' ⟨rfl, rfl⟩) | (go_at_call 60; refine (rints_any _ _ _ _ (by assumption) (by assumption)).mono ?_; rintro e w' ⟨rfl, g, rfl⟩) | (go_at_call 61; refine (rsetop_any _ _ _ _).mono ?_; rintro e w' ⟨rfl, rfl⟩) | (go_at_call 62; refine (rcset_any _ _ (by assumption) (by assumption)).mono ?_; rintro e w' ⟨rfl, g, rfl⟩) | (go_at_call 57; refine (get_any _ _ _ _ (by omega) (by omega)).mono ?_; rintro e w' ⟨rfl, n, rfl⟩))
      all_goals
        go_returns
        exact ⟨by first | (simp [Sp.rrest, *]; done) | (simp [Sp.rrest, Sp.rel, *]; done) | (exfalso; simp_all; done), more_of_below (by repeat' (first | (with_reducible exact Below.refl _ _) | (with_reducible assumption) | (with_reducible refine below_more ?_ ?_ _) | (with_reducible refine below_drewN ?_ _) | (with_reducible refine Below.drew ?_) | (with_reducible refine Below.alloc ?_ ?_ _) | (with_reducible refine Below.setCell ?_ ?_ _) | go_size | (simp [more_size]; done) | (simp [more_size]; omega)))⟩
  · have h1' : (fa == 1) = false := by simpa using h1
    clear h1
    go_enter Try.func19, Try.ntmps19
    go_wp2_with (first | (go_at_call 34; refine (rGood_any _ _ _ _ (by assumption) (by assumption) (by assumption)).mono ?_; rintro e w' ⟨rfl, g, rfl⟩) | (go_at_call 54; refine (rnone_any _).mono ?_; rintro e w' ⟨rfl, g, rfl⟩) | (go_at_call 56; refine (rtruth_any _ _).mono ?_; rintro e w' ⟨rfl, g, rfl⟩) | (go_at_call 58; refine (order_any _ _ _).mono ?_; rintro e w' ⟨rfl, g, rfl⟩) | (go_at_call 59; refine (rrelate_any _ _ _).mono ?_; rintro e w' ⟨rfl, rfl⟩) | (go_at_call 60; refine (rints_any _ _ _ _ (by assumption) (by assumption)).mono ?_; rintro e w' ⟨rfl, g, rfl⟩) | (go_at_call 61; refine (rsetop_any _ _ _ _).mono ?_; rintro e w' ⟨rfl, rfl⟩) | (go_at_call 62; refine (rcset_any _ _ (by assumption) (by assumption)).mono ?_; rintro e w' ⟨rfl, g, rfl⟩) | (go_at_call 57; refine (get_any _ _ _ _ (by omega) (by omega)).mono ?_; rintro e w' ⟨rfl, n, rfl⟩))
    all_goals
      go_returns
      exact ⟨by first | (simp [Sp.rrest, *]; done) | (simp [Sp.rrest, Sp.rel, *]; done) | (exfalso; simp_all; done), more_of_below (by repeat' (first | (with_reducible exact Below.refl _ _) | (with_reducible assumption) | (with_reducible refine below_more ?_ ?_ _) | (with_reducible refine below_drewN ?_ _) | (with_reducible refine Below.drew ?_) | (with_reducible refine Below.alloc ?_ ?_ _) | (with_reducible refine Below.setCell ?_ ?_ _) | go_size | (simp [more_size]; done) | (simp [more_size]; omega)))⟩
end Go.Proofs.Ythcpedonpiihnaa
