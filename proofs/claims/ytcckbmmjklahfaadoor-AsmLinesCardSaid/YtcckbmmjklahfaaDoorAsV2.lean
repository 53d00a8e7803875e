/- The walk of the document's Good and bit. Conditions: none. The walk of the document's Good at the other forms. Conditions: none. The walk of the document's Good at the other forms. Conditions: none. The walk of the document's Good at the other forms. Conditions: none. -/
import Derived.Test.YtcckbmmjklahfaaDoorAsU
import Derived.Test.YtcckbmmjklahfaaDoorAsB2
import Derived.Laws.StructEq
import Derived.BigRegion
namespace Go.Proofs.YtcckbmmjklahfaaDoor
set_option linter.all false
open Go.RowKit
set_option maxRecDepth 100000 in
theorem rin_any (n a b : Int) (w : World) : Calls Tryd.prog 47 #[.int .i64 n, .int .i64 a, .int .i64 b] w fun e w' => e = .returned (.bool (decide (a ≤ n) && decide (n ≤ b))) ∧ ∃ g, w' = more w g := by
  go_enter Tryd.func47, Tryd.ntmps47
  go_wp2
  all_goals go_ret
  all_goals exact ⟨ret_bool (by simp [*]; try omega), more_refl _⟩
set_option maxRecDepth 100000 in
theorem rbit_any (b : Bool) (w : World) : Calls Tryd.prog 36 #[.bool b] w fun e w' => e = .returned (.int .u32 (As.fl b)) ∧ ∃ g, w' = more w g := by
  cases b
  all_goals
    go_enter Tryd.func36, Tryd.ntmps36
    go_wp2
    go_ret
    exact ⟨rfl, more_refl _⟩
set_option maxRecDepth 100000 in
set_option maxHeartbeats 3200000 in
theorem rgood0_any (u v : Bool) (a b c op n : Int) (w : World) :
    Calls Tryd.prog 34 #[.agg #[.int .i64 0, .bool u, .bool v, .int .i64 a, .int .i64 b, .int .i64 c, .int .i64 op, .int .i64 n]] w fun e w' => As.BRet (As.Good ⟨0, u, v, a, b, c, op, n⟩) e ∧ ∃ g, w' = more w g := by
  go_enter Tryd.func34, Tryd.ntmps34
  go_wp2_with (first | (go_at_call 47; (with_reducible refine (rin_any _ _ _ _).mono ?_); rintro e w2 ⟨rfl, g, rfl⟩) | (go_at_call 48; first | ((with_reducible refine (rfits20_any _ _).mono ?_); rintro e w2 ⟨rfl, g, rfl⟩) | ((with_reducible refine (rfits24_any _ _).mono ?_); rintro e w2 ⟨rfl, g, rfl⟩)))
  all_goals go_ret
  all_goals refine ⟨⟨_, rfl, ?_⟩, more_of_below (by repeat' (first | (with_reducible exact Below.refl _ _) | (with_reducible assumption) | (with_reducible refine below_more ?_ ?_ _) | (with_reducible refine below_drewN ?_ _) | (with_reducible refine Below.drew ?_) | (with_reducible refine Below.alloc ?_ ?_ _) | (with_reducible refine Below.setCell ?_ ?_ _) | go_size | (simp [more_size]; done) | (simp [more_size]; omega)))⟩
  all_goals simp only [As.Good, As.opU]
  all_goals (try simp only [Bool.not_eq_true', Bool.not_eq_false', decide_eq_false_iff_not, decide_eq_true_eq, Bool.not_eq_true, Int.not_le] at *)
  all_goals first | (simp [*]; done) | (simp [*]; omega) | (simp_all; done) | (simp_all; omega)
end Go.Proofs.YtcckbmmjklahfaaDoor

namespace Go.Proofs.YtcckbmmjklahfaaDoor
set_option linter.all false
open Go.RowKit
set_option maxRecDepth 100000 in
set_option maxHeartbeats 3200000 in
theorem rgood1_any (u v : Bool) (a b c op n : Int) (w : World) :
    Calls Tryd.prog 34 #[.agg #[.int .i64 1, .bool u, .bool v, .int .i64 a, .int .i64 b, .int .i64 c, .int .i64 op, .int .i64 n]] w fun e w' => As.BRet (As.Good ⟨1, u, v, a, b, c, op, n⟩) e ∧ ∃ g, w' = more w g := by
  go_enter Tryd.func34, Tryd.ntmps34
  go_wp2_with (first | (go_at_call 47; (with_reducible refine (rin_any _ _ _ _).mono ?_); rintro e w2 ⟨rfl, g, rfl⟩) | (go_at_call 48; first | ((with_reducible refine (rfits20_any _ _).mono ?_); rintro e w2 ⟨rfl, g, rfl⟩) | ((with_reducible refine (rfits24_any _ _).mono ?_); rintro e w2 ⟨rfl, g, rfl⟩)))
  all_goals go_ret
  all_goals refine ⟨⟨_, rfl, ?_⟩, more_of_below (by repeat' (first | (with_reducible exact Below.refl _ _) | (with_reducible assumption) | (with_reducible refine below_more ?_ ?_ _) | (with_reducible refine below_drewN ?_ _) | (with_reducible refine Below.drew ?_) | (with_reducible refine Below.alloc ?_ ?_ _) | (with_reducible refine Below.setCell ?_ ?_ _) | go_size | (simp [more_size]; done) | (simp [more_size]; omega)))⟩
  all_goals simp only [As.Good, As.opU]
  all_goals (try simp only [Bool.not_eq_true', Bool.not_eq_false', decide_eq_false_iff_not, decide_eq_true_eq, Bool.not_eq_true, Int.not_le] at *)
  all_goals first | (simp [*]; done) | (simp [*]; omega) | (simp_all; done) | (simp_all; omega)
end Go.Proofs.YtcckbmmjklahfaaDoor

namespace Go.Proofs.YtcckbmmjklahfaaDoor
set_option linter.all false
open Go.RowKit
set_option maxRecDepth 100000 in
set_option maxHeartbeats 3200000 in
theorem rgood2_any (u v : Bool) (a b c op n : Int) (w : World) :
    Calls Tryd.prog 34 #[.agg #[.int .i64 2, .bool u, .bool v, .int .i64 a, .int .i64 b, .int .i64 c, .int .i64 op, .int .i64 n]] w fun e w' => As.BRet (As.Good ⟨2, u, v, a, b, c, op, n⟩) e ∧ ∃ g, w' = more w g := by
  go_enter Tryd.func34, Tryd.ntmps34
  go_wp2_with (first | (go_at_call 47; (with_reducible refine (rin_any _ _ _ _).mono ?_); rintro e w2 ⟨rfl, g, rfl⟩) | (go_at_call 48; first | ((with_reducible refine (rfits20_any _ _).mono ?_); rintro e w2 ⟨rfl, g, rfl⟩) | ((with_reducible refine (rfits24_any _ _).mono ?_); rintro e w2 ⟨rfl, g, rfl⟩)))
  all_goals go_ret
  all_goals refine ⟨⟨_, rfl, ?_⟩, more_of_below (by repeat' (first | (with_reducible exact Below.refl _ _) | (with_reducible assumption) | (with_reducible refine below_more ?_ ?_ _) | (with_reducible refine below_drewN ?_ _) | (with_reducible refine Below.drew ?_) | (with_reducible refine Below.alloc ?_ ?_ _) | (with_reducible refine Below.setCell ?_ ?_ _) | go_size | (simp [more_size]; done) | (simp [more_size]; omega)))⟩
  all_goals simp only [As.Good, As.opU]
  all_goals (try simp only [Bool.not_eq_true', Bool.not_eq_false', decide_eq_false_iff_not, decide_eq_true_eq, Bool.not_eq_true, Int.not_le] at *)
  all_goals first | (simp [*]; done) | (simp [*]; omega) | (simp_all; done) | (simp_all; omega)
end Go.Proofs.YtcckbmmjklahfaaDoor

namespace Go.Proofs.YtcckbmmjklahfaaDoor
set_option linter.all false
open Go.RowKit
set_option maxRecDepth 100000 in
set_option maxHeartbeats 3200000 in
theorem rgood3t_any (v : Bool) (a b c op n : Int) (w : World) :
    Calls Tryd.prog 34 #[.agg #[.int .i64 3, .bool true, .bool v, .int .i64 a, .int .i64 b, .int .i64 c, .int .i64 op, .int .i64 n]] w fun e w' => As.BRet (As.Good ⟨3, true, v, a, b, c, op, n⟩) e ∧ ∃ g, w' = more w g := by
  go_enter Tryd.func34, Tryd.ntmps34
  go_wp2_with (first | (go_at_call 47; (with_reducible refine (rin_any _ _ _ _).mono ?_); rintro e w2 ⟨rfl, g, rfl⟩) | (go_at_call 48; first | ((with_reducible refine (rfits20_any _ _).mono ?_); rintro e w2 ⟨rfl, g, rfl⟩) | ((with_reducible refine (rfits24_any _ _).mono ?_); rintro e w2 ⟨rfl, g, rfl⟩)))
  all_goals go_ret
  all_goals refine ⟨⟨_, rfl, ?_⟩, more_of_below (by repeat' (first | (with_reducible exact Below.refl _ _) | (with_reducible assumption) | (with_reducible refine below_more ?_ ?_ _) | (with_reducible refine below_drewN ?_ _) | (with_reducible refine Below.drew ?_) | (with_reducible refine Below.alloc ?_ ?_ _) | (with_reducible refine Below.setCell ?_ ?_ _) | go_size | (simp [more_size]; done) | (simp [more_size]; omega)))⟩
  all_goals simp only [As.Good, As.opU]
  all_goals (try simp only [Bool.not_eq_true', Bool.not_eq_false', decide_eq_false_iff_not, decide_eq_true_eq, Bool.not_eq_true, Int.not_le] at *)
  all_goals first | (simp [*]; done) | (simp [*]; omega) | (simp_all; done) | (simp_all; omega)
set_option maxRecDepth 100000 in
set_option maxHeartbeats 3200000 in
theorem rgood3f_any (v : Bool) (a b c op n : Int) (w : World) :
    Calls Tryd.prog 34 #[.agg #[.int .i64 3, .bool false, .bool v, .int .i64 a, .int .i64 b, .int .i64 c, .int .i64 op, .int .i64 n]] w fun e w' => As.BRet (As.Good ⟨3, false, v, a, b, c, op, n⟩) e ∧ ∃ g, w' = more w g := by
  go_enter Tryd.func34, Tryd.ntmps34
  go_wp2_with (first | (go_at_call 47; (with_reducible refine (rin_any _ _ _ _).mono ?_); rintro e w2 ⟨rfl, g, rfl⟩) | (go_at_call 48; first | ((with_reducible refine (rfits20_any _ _).mono ?_); rintro e w2 ⟨rfl, g, rfl⟩) | ((with_reducible refine (rfits24_any _ _).mono ?_); rintro e w2 ⟨rfl, g, rfl⟩)))
  all_goals go_ret
  all_goals refine ⟨⟨_, rfl, ?_⟩, more_of_below (by repeat' (first | (with_reducible exact Below.refl _ _) | (with_reducible assumption) | (with_reducible refine below_more ?_ ?_ _) | (with_reducible refine below_drewN ?_ _) | (with_reducible refine Below.drew ?_) | (with_reducible refine Below.alloc ?_ ?_ _) | (with_reducible refine Below.setCell ?_ ?_ _) | go_size | (simp [more_size]; done) | (simp [more_size]; omega)))⟩
  all_goals simp only [As.Good, As.opU]
  all_goals (try simp only [Bool.not_eq_true', Bool.not_eq_false', decide_eq_false_iff_not, decide_eq_true_eq, Bool.not_eq_true, Int.not_le] at *)
  all_goals first | (simp [*]; done) | (simp [*]; omega) | (simp_all; done) | (simp_all; omega)
end Go.Proofs.YtcckbmmjklahfaaDoor
