/- The walks of the laws ConstsTwo, ConstsOne, ConstsDivides. Conditions: numbers lie in their bounds; a sign is no longer than a text may be. -/
import Derived.Test.YthcpedonpiihnaaLargeW
namespace Go.Proofs.Ythcpedonpiihnaa
set_option linter.all false
open Go.RowKit
set_option maxRecDepth 100000 in
set_option maxHeartbeats 1600000 in
theorem ConstsTwo_any (op : ByteArray) (fa na fb nb : Int) (ta tb : ByteArray) (w : World) (so : op.size ≤ maxLen)
    (a0 : -9223372036854775808 ≤ na) (a1 : na < 9223372036854775808) (b0 : -9223372036854775808 ≤ nb) (b1 : nb < 9223372036854775808) :
    Calls Try.prog 3 #[.string op, .agg #[.int .i64 fa, .int .i64 na, .string ta], .agg #[.int .i64 fb, .int .i64 nb, .string tb]] w fun e w' => e = .returned (.bool true) ∧ Below w.heap.size w w' := by
  have hL : Sp.large [(fa, na, ta), (fb, nb, tb)] = (decide (5000 < ta.size) || decide (5000 < tb.size)) := by simp [Sp.large]
  by_cases h : (decide (5000 < ta.size) || decide (5000 < tb.size)) = true
  · rw [h] at hL
    clear h
    go_enter Try.func3, Try.ntmps3
    go_wp2_with fail
    refine (large_any _ [(fa, na, ta), (fb, nb, tb)] _ (reads_2 ?_ (by decide) (by decide) ?_ ?_ ?_ ?_ ?_ ?_)).mono ?_
    all_goals try (simp [go_sem]; done)
    rintro e w' ⟨rfl, rfl⟩
    go_wp2_with (first | (go_at_call 17; refine (wakes12_any _).mono ?_; rintro e w3 ⟨rfl, g, rfl⟩))
    go_ret
    exact ⟨rfl, (by repeat' (first | (with_reducible exact Below.refl _ _) | (with_reducible assumption) | (with_reducible refine below_more ?_ ?_ _) | (with_reducible refine below_drewN ?_ _) | (with_reducible refine Below.drew ?_) | (with_reducible refine Below.alloc ?_ ?_ _) | (with_reducible refine Below.setCell ?_ ?_ _) | go_size | (simp [more_size]; done) | (simp [more_size]; omega)))⟩
  · have h' : (decide (5000 < ta.size) || decide (5000 < tb.size)) = false := by simpa using h
    rw [h'] at hL
    simp at h'
    obtain ⟨s1, s2⟩ := h'
    have sa : ta.size < 4294967281 := by omega
    have sb : tb.size < 4294967281 := by omega
    clear h
    go_enter Try.func3, Try.ntmps3
    go_wp2_with fail
    refine (large_any _ [(fa, na, ta), (fb, nb, tb)] _ (reads_2 ?_ (by decide) (by decide) ?_ ?_ ?_ ?_ ?_ ?_)).mono ?_
    all_goals try (simp [go_sem]; done)
    rintro e w' ⟨rfl, rfl⟩
    have TW := Lib.hid (Two_any op fa na fb nb ta tb (sa := sa) (sb := sb) (so := so) (a0 := a0) (a1 := a1) (b0 := b0) (b1 := b1))
    have RT := Lib.hid (rTwo_any op fa na fb nb ta tb (sa := sa) (sb := sb) (a0 := a0) (a1 := a1) (b0 := b0) (b1 := b1))
    generalize Sp.twoF op.data.toList fa na ta.data.toList fb nb tb.data.toList = r at *
    go_wp2_with (first | (go_at_call 18; ((with_reducible refine (TW.out _).mono ?_); rintro e w' ⟨rfl, g, rfl⟩)) | (go_at_call 19; ((with_reducible refine (RT.out _).mono ?_); rintro e w' ⟨rfl, g, rfl⟩)) | (go_at_call 20; refine (Same_eq _ _ _ _).mono ?_; rintro e w' ⟨rfl, g, rfl⟩) | (go_at_call 17; refine (wakes12_any _).mono ?_; rintro e w3 ⟨rfl, g, rfl⟩))
    go_ret
    exact ⟨rfl, (by repeat' (first | (with_reducible exact Below.refl _ _) | (with_reducible assumption) | (with_reducible refine below_more ?_ ?_ _) | (with_reducible refine below_drewN ?_ _) | (with_reducible refine Below.drew ?_) | (with_reducible refine Below.alloc ?_ ?_ _) | (with_reducible refine Below.setCell ?_ ?_ _) | go_size | (simp [more_size]; done) | (simp [more_size]; omega)))⟩
end Go.Proofs.Ythcpedonpiihnaa
