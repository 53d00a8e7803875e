/- The walk of the program's risc.Good: may an instruction be encoded? Conditions: none. The walk of the program's risc.Good at the other forms. Conditions: none. The walk of the program's risc.Good at the other forms. Conditions: none. The walk of the program's risc.Good at the other forms. Conditions: none. -/
import Derived.Test.YtcckbmmjklahfaaDoorAsA
import Derived.Laws.StructEq
import Derived.BigRegion
namespace Go.Proofs.YtcckbmmjklahfaaDoor
set_option linter.all false
open Go.RowKit
namespace As
def BRet (p : Prop) (e : Ending) : Prop := ∃ r : Bool, e = .returned (.bool r) ∧ (r = true ↔ p)
end As
set_option maxRecDepth 100000 in
set_option maxHeartbeats 3200000 in
theorem pgood0_any (u v : Bool) (a b c op n : Int) (w : World) :
    Calls Tryd.prog 44 #[.agg #[.int .i64 0, .bool u, .bool v, .int .i64 a, .int .i64 b, .int .i64 c, .int .i64 op, .int .i64 n]] w fun e w' => As.BRet (As.Good ⟨0, u, v, a, b, c, op, n⟩) e ∧ ∃ g, w' = more w g := by
  go_enter Tryd.func44, Tryd.ntmps44
  go_wp2_with (first | (go_at_call 55; first | ((with_reducible refine (half4_any _ _).mono ?_); rintro e w2 ⟨rfl, g, rfl⟩) | ((with_reducible refine (half16_any _ _).mono ?_); rintro e w2 ⟨rfl, g, rfl⟩)) | (go_at_call 56; first | ((with_reducible refine (fits20_any _ _).mono ?_); rintro e w2 ⟨rfl, g, rfl⟩) | ((with_reducible refine (fits24_any _ _).mono ?_); rintro e w2 ⟨rfl, g, rfl⟩)))
  go_region
  go_wp2_with (first | (go_at_call 55; first | ((with_reducible refine (half4_any _ _).mono ?_); rintro e w2 ⟨rfl, g, rfl⟩) | ((with_reducible refine (half16_any _ _).mono ?_); rintro e w2 ⟨rfl, g, rfl⟩)) | (go_at_call 56; first | ((with_reducible refine (fits20_any _ _).mono ?_); rintro e w2 ⟨rfl, g, rfl⟩) | ((with_reducible refine (fits24_any _ _).mono ?_); rintro e w2 ⟨rfl, g, rfl⟩)))
  all_goals go_ret
  all_goals refine ⟨⟨_, rfl, ?_⟩, more_of_below (by repeat' (first | (with_reducible exact Below.refl _ _) | (with_reducible assumption) | (with_reducible refine below_more ?_ ?_ _) | (with_reducible refine below_drewN ?_ _) | (with_reducible refine Below.drew ?_) | (with_reducible refine Below.alloc ?_ ?_ _) | (with_reducible refine Below.setCell ?_ ?_ _) | go_size | (simp [more_size]; done) | (simp [more_size]; omega)))⟩
  all_goals simp only [As.Good, As.opU]
  all_goals simp [*]
  all_goals omega
end Go.Proofs.YtcckbmmjklahfaaDoor

namespace Go.Proofs.YtcckbmmjklahfaaDoor
set_option linter.all false
open Go.RowKit
set_option maxRecDepth 100000 in
set_option maxHeartbeats 3200000 in
theorem pgood1_any (u v : Bool) (a b c op n : Int) (w : World) :
    Calls Tryd.prog 44 #[.agg #[.int .i64 1, .bool u, .bool v, .int .i64 a, .int .i64 b, .int .i64 c, .int .i64 op, .int .i64 n]] w fun e w' => As.BRet (As.Good ⟨1, u, v, a, b, c, op, n⟩) e ∧ ∃ g, w' = more w g := by
  go_enter Tryd.func44, Tryd.ntmps44
  go_wp2_with (first | (go_at_call 55; first | ((with_reducible refine (half4_any _ _).mono ?_); rintro e w2 ⟨rfl, g, rfl⟩) | ((with_reducible refine (half16_any _ _).mono ?_); rintro e w2 ⟨rfl, g, rfl⟩)) | (go_at_call 56; first | ((with_reducible refine (fits20_any _ _).mono ?_); rintro e w2 ⟨rfl, g, rfl⟩) | ((with_reducible refine (fits24_any _ _).mono ?_); rintro e w2 ⟨rfl, g, rfl⟩)))
  go_region
  go_wp2_with (first | (go_at_call 55; first | ((with_reducible refine (half4_any _ _).mono ?_); rintro e w2 ⟨rfl, g, rfl⟩) | ((with_reducible refine (half16_any _ _).mono ?_); rintro e w2 ⟨rfl, g, rfl⟩)) | (go_at_call 56; first | ((with_reducible refine (fits20_any _ _).mono ?_); rintro e w2 ⟨rfl, g, rfl⟩) | ((with_reducible refine (fits24_any _ _).mono ?_); rintro e w2 ⟨rfl, g, rfl⟩)))
  all_goals go_ret
  all_goals refine ⟨⟨_, rfl, ?_⟩, more_of_below (by repeat' (first | (with_reducible exact Below.refl _ _) | (with_reducible assumption) | (with_reducible refine below_more ?_ ?_ _) | (with_reducible refine below_drewN ?_ _) | (with_reducible refine Below.drew ?_) | (with_reducible refine Below.alloc ?_ ?_ _) | (with_reducible refine Below.setCell ?_ ?_ _) | go_size | (simp [more_size]; done) | (simp [more_size]; omega)))⟩
  all_goals simp only [As.Good, As.opU]
  all_goals simp [*]
  all_goals omega
end Go.Proofs.YtcckbmmjklahfaaDoor

namespace Go.Proofs.YtcckbmmjklahfaaDoor
set_option linter.all false
open Go.RowKit
set_option maxRecDepth 100000 in
set_option maxHeartbeats 3200000 in
theorem pgood2_any (u v : Bool) (a b c op n : Int) (w : World) :
    Calls Tryd.prog 44 #[.agg #[.int .i64 2, .bool u, .bool v, .int .i64 a, .int .i64 b, .int .i64 c, .int .i64 op, .int .i64 n]] w fun e w' => As.BRet (As.Good ⟨2, u, v, a, b, c, op, n⟩) e ∧ ∃ g, w' = more w g := by
  go_enter Tryd.func44, Tryd.ntmps44
  go_wp2_with (first | (go_at_call 55; first | ((with_reducible refine (half4_any _ _).mono ?_); rintro e w2 ⟨rfl, g, rfl⟩) | ((with_reducible refine (half16_any _ _).mono ?_); rintro e w2 ⟨rfl, g, rfl⟩)) | (go_at_call 56; first | ((with_reducible refine (fits20_any _ _).mono ?_); rintro e w2 ⟨rfl, g, rfl⟩) | ((with_reducible refine (fits24_any _ _).mono ?_); rintro e w2 ⟨rfl, g, rfl⟩)))
  go_region
  go_wp2_with (first | (go_at_call 55; first | ((with_reducible refine (half4_any _ _).mono ?_); rintro e w2 ⟨rfl, g, rfl⟩) | ((with_reducible refine (half16_any _ _).mono ?_); rintro e w2 ⟨rfl, g, rfl⟩)) | (go_at_call 56; first | ((with_reducible refine (fits20_any _ _).mono ?_); rintro e w2 ⟨rfl, g, rfl⟩) | ((with_reducible refine (fits24_any _ _).mono ?_); rintro e w2 ⟨rfl, g, rfl⟩)))
  all_goals go_ret
  all_goals refine ⟨⟨_, rfl, ?_⟩, more_of_below (by repeat' (first | (with_reducible exact Below.refl _ _) | (with_reducible assumption) | (with_reducible refine below_more ?_ ?_ _) | (with_reducible refine below_drewN ?_ _) | (with_reducible refine Below.drew ?_) | (with_reducible refine Below.alloc ?_ ?_ _) | (with_reducible refine Below.setCell ?_ ?_ _) | go_size | (simp [more_size]; done) | (simp [more_size]; omega)))⟩
  all_goals simp only [As.Good, As.opU]
  all_goals simp [*]
  all_goals omega
end Go.Proofs.YtcckbmmjklahfaaDoor

namespace Go.Proofs.YtcckbmmjklahfaaDoor
set_option linter.all false
open Go.RowKit
set_option maxRecDepth 100000 in
set_option maxHeartbeats 3200000 in
theorem pgood3t_any (v : Bool) (a b c op n : Int) (w : World) :
    Calls Tryd.prog 44 #[.agg #[.int .i64 3, .bool true, .bool v, .int .i64 a, .int .i64 b, .int .i64 c, .int .i64 op, .int .i64 n]] w fun e w' => As.BRet (As.Good ⟨3, true, v, a, b, c, op, n⟩) e ∧ ∃ g, w' = more w g := by
  go_enter Tryd.func44, Tryd.ntmps44
  go_wp2_with (first | (go_at_call 55; first | ((with_reducible refine (half4_any _ _).mono ?_); rintro e w2 ⟨rfl, g, rfl⟩) | ((with_reducible refine (half16_any _ _).mono ?_); rintro e w2 ⟨rfl, g, rfl⟩)) | (go_at_call 56; first | ((with_reducible refine (fits20_any _ _).mono ?_); rintro e w2 ⟨rfl, g, rfl⟩) | ((with_reducible refine (fits24_any _ _).mono ?_); rintro e w2 ⟨rfl, g, rfl⟩)))
  all_goals go_ret
  all_goals refine ⟨⟨_, rfl, ?_⟩, more_of_below (by repeat' (first | (with_reducible exact Below.refl _ _) | (with_reducible assumption) | (with_reducible refine below_more ?_ ?_ _) | (with_reducible refine below_drewN ?_ _) | (with_reducible refine Below.drew ?_) | (with_reducible refine Below.alloc ?_ ?_ _) | (with_reducible refine Below.setCell ?_ ?_ _) | go_size | (simp [more_size]; done) | (simp [more_size]; omega)))⟩
  all_goals simp only [As.Good, As.opU]
  all_goals simp [*]
  all_goals omega
set_option maxRecDepth 100000 in
set_option maxHeartbeats 3200000 in
theorem pgood3f_any (v : Bool) (a b c op n : Int) (w : World) :
    Calls Tryd.prog 44 #[.agg #[.int .i64 3, .bool false, .bool v, .int .i64 a, .int .i64 b, .int .i64 c, .int .i64 op, .int .i64 n]] w fun e w' => As.BRet (As.Good ⟨3, false, v, a, b, c, op, n⟩) e ∧ ∃ g, w' = more w g := by
  go_enter Tryd.func44, Tryd.ntmps44
  go_wp2_with (first | (go_at_call 55; first | ((with_reducible refine (half4_any _ _).mono ?_); rintro e w2 ⟨rfl, g, rfl⟩) | ((with_reducible refine (half16_any _ _).mono ?_); rintro e w2 ⟨rfl, g, rfl⟩)) | (go_at_call 56; first | ((with_reducible refine (fits20_any _ _).mono ?_); rintro e w2 ⟨rfl, g, rfl⟩) | ((with_reducible refine (fits24_any _ _).mono ?_); rintro e w2 ⟨rfl, g, rfl⟩)))
  all_goals go_ret
  all_goals refine ⟨⟨_, rfl, ?_⟩, more_of_below (by repeat' (first | (with_reducible exact Below.refl _ _) | (with_reducible assumption) | (with_reducible refine below_more ?_ ?_ _) | (with_reducible refine below_drewN ?_ _) | (with_reducible refine Below.drew ?_) | (with_reducible refine Below.alloc ?_ ?_ _) | (with_reducible refine Below.setCell ?_ ?_ _) | go_size | (simp [more_size]; done) | (simp [more_size]; omega)))⟩
  all_goals simp only [As.Good, As.opU]
  all_goals simp [*]
  all_goals omega
end Go.Proofs.YtcckbmmjklahfaaDoor
