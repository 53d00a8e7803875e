/- The walk of the law ConstsOrder, all cases. Conditions: numbers lie in their bounds. -/
import Derived.Test.YthcpedonpiihnaaLwFb
namespace Go.Proofs.Ythcpedonpiihnaa
set_option linter.all false
open Go.RowKit
set_option maxRecDepth 100000 in
set_option maxHeartbeats 1600000 in
theorem ConstsOrder_any (fa na fb nb : Int) (ta tb : ByteArray) (w : World) (a0 : -9223372036854775808 ≤ na) (a1 : na < 9223372036854775808) (b0 : -9223372036854775808 ≤ nb) (b1 : nb < 9223372036854775808) :
    Calls Try.prog 6 #[.agg #[.int .i64 fa, .int .i64 na, .string ta], .agg #[.int .i64 fb, .int .i64 nb, .string tb]] w fun e w' => e = .returned (.bool true) ∧ Below w.heap.size w w' := by
  by_cases h : (decide (5000 < ta.size) || decide (5000 < tb.size)) = true
  · have hL : Sp.large [(fa, na, ta), (fb, nb, tb)] = (decide (5000 < ta.size) || decide (5000 < tb.size)) := by simp [Sp.large]
    rw [h] at hL
    clear h
    go_enter Try.func6, Try.ntmps6
    go_wp2_with fail
    refine (large_any _ [(fa, na, ta), (fb, nb, tb)] _ (reads_2 ?_ (by decide) (by decide) ?_ ?_ ?_ ?_ ?_ ?_)).mono ?_
    all_goals try (simp [go_sem]; done)
    rintro e w' ⟨rfl, rfl⟩
    go_wp2_with (first | (go_at_call 17; refine (wakes12_any _).mono ?_; rintro e w3 ⟨rfl, g, rfl⟩))
    go_ret
    exact ⟨rfl, (by repeat' (first | (with_reducible exact Below.refl _ _) | (with_reducible assumption) | (with_reducible refine below_more ?_ ?_ _) | (with_reducible refine below_drewN ?_ _) | (with_reducible refine Below.drew ?_) | (with_reducible refine Below.alloc ?_ ?_ _) | (with_reducible refine Below.setCell ?_ ?_ _) | go_size | (simp [more_size]; done) | (simp [more_size]; omega)))⟩
  · have h' : (decide (5000 < ta.size) || decide (5000 < tb.size)) = false := by simpa using h
    simp at h'
    by_cases hz : (Sp.twoF [60] fa na ta.data.toList fb nb tb.data.toList).2.2 = 0
    · exact ConstsOrder_yes fa na fb nb ta tb w a0 a1 b0 b1 (by omega) (by omega) hz
    · exact ConstsOrder_no fa na fb nb ta tb w a0 a1 b0 b1 (by omega) (by omega) _ _ _ hz rfl
end Go.Proofs.Ythcpedonpiihnaa
