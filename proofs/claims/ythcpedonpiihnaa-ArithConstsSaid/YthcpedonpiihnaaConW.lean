/- The walks of the small functions of the package consts. Conditions: numbers lie in their bounds. -/
import Derived.Test.YthcpedonpiihnaaMapK
import Derived.Test.YthcpedonpiihnaaArithV
import Derived.Test.YthcpedonpiihnaaConP
namespace Go.Proofs.Ythcpedonpiihnaa
set_option linter.unusedSimpArgs false
set_option linter.unusedVariables false
open Go.RowKit
theorem number_any (n : Int) (w : World) :
    Calls Try.prog 123 #[.int .i64 n] w fun e w' => e = .returned (Sp.V 1 n) ∧ ∃ g, w' = more w g := by
  go_enter Try.func123, Try.ntmps123
  go_wp2
  go_returns
  exact ⟨rfl, more_of_below (by repeat' (first | (with_reducible exact Below.refl _ _) | (with_reducible assumption) | (with_reducible refine below_more ?_ ?_ _) | (with_reducible refine below_drewN ?_ _) | (with_reducible refine Below.drew ?_) | (with_reducible refine Below.alloc ?_ ?_ _) | (with_reducible refine Below.setCell ?_ ?_ _) | go_size))⟩
theorem cset_any (n : Int) (w : World) (h0 : 0 ≤ n) (h1 : n < 4294967296) :
    Calls Try.prog 63 #[.int .u32 n] w fun e w' => e = .returned (Sp.V 4 n) ∧ ∃ g, w' = more w g := by
  go_enter Try.func63, Try.ntmps63
  go_wp2
  go_returns
  exact ⟨rfl, more_of_below (by repeat' (first | (with_reducible exact Below.refl _ _) | (with_reducible assumption) | (with_reducible refine below_more ?_ ?_ _) | (with_reducible refine below_drewN ?_ _) | (with_reducible refine Below.drew ?_) | (with_reducible refine Below.alloc ?_ ?_ _) | (with_reducible refine Below.setCell ?_ ?_ _) | go_size))⟩
theorem truth_any (b : Bool) (w : World) :
    Calls Try.prog 53 #[.bool b] w fun e w' => e = .returned (Sp.V 2 (Sp.tn b)) ∧ ∃ g, w' = more w g := by
  cases b
  all_goals
    go_enter Try.func53, Try.ntmps53
    go_wp2
    go_returns
    exact ⟨rfl, more_of_below (by repeat' (first | (with_reducible exact Below.refl _ _) | (with_reducible assumption) | (with_reducible refine below_more ?_ ?_ _) | (with_reducible refine below_drewN ?_ _) | (with_reducible refine Below.drew ?_) | (with_reducible refine Below.alloc ?_ ?_ _) | (with_reducible refine Below.setCell ?_ ?_ _) | go_size))⟩
theorem fits_any (n : Int) (w : World) :
    Calls Try.prog 80 #[.int .i64 n] w fun e w' => e = .returned (Sp.R (Sp.fitsF n)) ∧ ∃ g, w' = more w g := by
  cases hf : Sp.fit n
  all_goals
    go_enter Try.func80, Try.ntmps80
    go_wp2_with (first | (go_at_call 82; refine (fits32_any _ _).mono ?_; rintro e w' ⟨rfl, rfl⟩) | (go_at_call 123; refine (number_any _ _).mono ?_; rintro e w' ⟨rfl, g, rfl⟩))
    go_returns
    exact ⟨by simp [Sp.fitsF, hf], more_of_below (by repeat' (first | (with_reducible exact Below.refl _ _) | (with_reducible assumption) | (with_reducible refine below_more ?_ ?_ _) | (with_reducible refine below_drewN ?_ _) | (with_reducible refine Below.drew ?_) | (with_reducible refine Below.alloc ?_ ?_ _) | (with_reducible refine Below.setCell ?_ ?_ _) | go_size))⟩
end Go.Proofs.Ythcpedonpiihnaa
