/- The walk of the document's operation of two constants (ref12.Two), one case. Written by gen_rtwo.py. Conditions: numbers lie in their bounds; texts are shorter than a text may be. -/
import Derived.Test.YthcpedonpiihnaaRefT
namespace Go.Proofs.Ythcpedonpiihnaa
set_option linter.all false
open Go.RowKit
set_option maxRecDepth 100000 in
set_option maxHeartbeats 6400000 in
theorem rTwo_4 (op : ByteArray) (na nb : Int) (ta tb : ByteArray) (w : World) (sa : ta.size < 4294967281) (sb : tb.size < 4294967281) (a0 : -9223372036854775808 ≤ na) (a1 : na < 9223372036854775808) (b0 : -9223372036854775808 ≤ nb) (b1 : nb < 9223372036854775808)
    (ga : Sp.good 4 na ta.data.toList = true) (gb : Sp.good 4 nb tb.data.toList = true) :
    Calls Try.prog 19 #[.string op, .agg #[.int .i64 4, .int .i64 na, .string ta], .agg #[.int .i64 4, .int .i64 nb, .string tb]] w fun e w' => e = .returned (Sp.R (Sp.rrest op.toList 4 na ta.data.toList 4 nb tb.data.toList)) ∧ ∃ g, w' = more w g := by
  obtain ⟨xa0, xa1⟩ := Sp.good_4 ga
  obtain ⟨xb0, xb1⟩ := Sp.good_4 gb
  obtain ⟨s0, s1⟩ := setop_bds op.toList na nb xa0 xa1 xb0 xb1
  rcases Int.lt_trichotomy na nb with hlt | rfl | hgt
  · have HO := Lib.hid (order3_lt ta.data.toList tb.data.toList hlt)
    have hne : (na != nb) = true := by simp; omega
    go_enter Try.func19, Try.ntmps19
    go_wp2_with (first | (go_at_call 34; refine (rGood_any _ _ _ _ (by assumption) (by assumption) (by assumption)).mono ?_; rintro e w' ⟨rfl, g, rfl⟩) | (go_at_call 54; refine (rnone_any _).mono ?_; rintro e w' ⟨rfl, g, rfl⟩) | (go_at_call 56; refine (rtruth_any _ _).mono ?_; rintro e w' ⟨rfl, g, rfl⟩) | (go_at_call 58; refine (order_any _ _ _).mono ?_; rintro e w' ⟨rfl, g, rfl⟩) | (go_at_call 59; refine (rrelate_any _ _ _).mono ?_; rintro e w' ⟨rfl, rfl⟩) | (go_at_call 60; refine (rints_any _ _ _ _ (by assumption) (by assumption)).mono ?_; rintro e w' ⟨rfl, g, rfl⟩) | (go_at_call 61; refine (rsetop_any _ _ _ _).mono ?_; rintro e w' ⟨rfl, rfl⟩) | (go_at_call 62; refine (rcset_any _ _ (by assumption) (by assumption)).mono ?_; rintro e w' ⟨rfl, g, rfl⟩) | (go_at_call 57; refine (get_any _ _ _ _ (by omega) (by omega)).mono ?_; rintro e w' ⟨rfl, n, rfl⟩))
    all_goals
      go_returns
      exact ⟨by first | (simp [Sp.rrest, HO.out, *]; done) | (simp [Sp.rrest, HO.out, Sp.rel, *]; done) | (exfalso; simp_all; done), more_of_below (by repeat' (first | (with_reducible exact Below.refl _ _) | (with_reducible assumption) | (with_reducible refine below_more ?_ ?_ _) | (with_reducible refine below_drewN ?_ _) | (with_reducible refine Below.drew ?_) | (with_reducible refine Below.alloc ?_ ?_ _) | (with_reducible refine Below.setCell ?_ ?_ _) | go_size | (simp [more_size]; done) | (simp [more_size]; omega)))⟩
  · have HO := Lib.hid (order3_eq na ta.data.toList tb.data.toList)
    go_enter Try.func19, Try.ntmps19
    go_wp2_with (first | (go_at_call 34; refine (rGood_any _ _ _ _ (by assumption) (by assumption) (by assumption)).mono ?_; rintro e w' ⟨rfl, g, rfl⟩) | (go_at_call 54; refine (rnone_any _).mono ?_; rintro e w' ⟨rfl, g, rfl⟩) | (go_at_call 56; refine (rtruth_any _ _).mono ?_; rintro e w' ⟨rfl, g, rfl⟩) | (go_at_call 58; refine (order_any _ _ _).mono ?_; rintro e w' ⟨rfl, g, rfl⟩) | (go_at_call 59; refine (rrelate_any _ _ _).mono ?_; rintro e w' ⟨rfl, rfl⟩) | (go_at_call 60; refine (rints_any _ _ _ _ (by assumption) (by assumption)).mono ?_; rintro e w' ⟨rfl, g, rfl⟩) | (go_at_call 61; refine (rsetop_any _ _ _ _).mono ?_; rintro e w' ⟨rfl, rfl⟩) | (go_at_call 62; refine (rcset_any _ _ (by assumption) (by assumption)).mono ?_; rintro e w' ⟨rfl, g, rfl⟩) | (go_at_call 57; refine (get_any _ _ _ _ (by omega) (by omega)).mono ?_; rintro e w' ⟨rfl, n, rfl⟩))
    all_goals
      go_returns
      exact ⟨by first | (simp [Sp.rrest, HO.out, *]; done) | (simp [Sp.rrest, HO.out, Sp.rel, *]; done) | (exfalso; simp_all; done), more_of_below (by repeat' (first | (with_reducible exact Below.refl _ _) | (with_reducible assumption) | (with_reducible refine below_more ?_ ?_ _) | (with_reducible refine below_drewN ?_ _) | (with_reducible refine Below.drew ?_) | (with_reducible refine Below.alloc ?_ ?_ _) | (with_reducible refine Below.setCell ?_ ?_ _) | go_size | (simp [more_size]; done) | (simp [more_size]; omega)))⟩
  · have HO := Lib.hid (order3_gt ta.data.toList tb.data.toList hgt)
    have hne : (na != nb) = true := by simp; omega
    have hng : ¬ na < nb := by omega
    go_enter Try.func19, Try.ntmps19
    go_wp2_with (first | (go_at_call 34; refine (rGood_any _ _ _ _ (by assumption) (by assumption) (by assumption)).mono ?_; rintro e w' ⟨rfl, g, rfl⟩) | (go_at_call 54; refine (rnone_any _).mono ?_; rintro e w' ⟨rfl, g, rfl⟩) | (go_at_call 56; refine (rtruth_any _ _).mono ?_; rintro e w' ⟨rfl, g, rfl⟩) | (go_at_call 58; refine (order_any _ _ _).mono ?_; rintro e w' ⟨rfl, g, rfl⟩) | (go_at_call 59; refine (rrelate_any _ _ _).mono ?_; rintro e w' ⟨rfl, rfl⟩) | (go_at_call 60; refine (rints_any _ _ _ _ (by assumption) (by assumption)).mono ?_; rintro e w' ⟨rfl, g, rfl⟩) | (go_at_call 61; refine (rsetop_any _ _ _ _).mono ?_; rintro e w' ⟨rfl, rfl⟩) | (go_at_call 62; refine (rcset_any _ _ (by assumption) (by assumption)).mono ?_; rintro e w' ⟨rfl, g, rfl⟩) | (go_at_call 57; refine (get_any _ _ _ _ (by omega) (by omega)).mono ?_; rintro e w' ⟨rfl, n, rfl⟩))
    all_goals
      go_returns
      exact ⟨by first | (simp [Sp.rrest, HO.out, *]; done) | (simp [Sp.rrest, HO.out, Sp.rel, *]; done) | (exfalso; simp_all; done), more_of_below (by repeat' (first | (with_reducible exact Below.refl _ _) | (with_reducible assumption) | (with_reducible refine below_more ?_ ?_ _) | (with_reducible refine below_drewN ?_ _) | (with_reducible refine Below.drew ?_) | (with_reducible refine Below.alloc ?_ ?_ _) | (with_reducible refine Below.setCell ?_ ?_ _) | go_size | (simp [more_size]; done) | (simp [more_size]; omega)))⟩
end Go.Proofs.Ythcpedonpiihnaa
