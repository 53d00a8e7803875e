/- The walk of the document's Decode. Conditions: the word is one. -/
import Derived.Test.YtcckbmmjklahfaaDoorAsW
import Derived.Test.YtcckbmmjklahfaaDoorAsD
namespace Go.Proofs.YtcckbmmjklahfaaDoor
set_option linter.all false
open Go.RowKit
abbrev PartIs (z lo n r : Int) : Prop := ∀ w : World, Calls Tryd.prog 21 #[.int .u32 z, .int .i64 lo, .int .i64 n] w fun e w' => e = .returned (.int .i64 r) ∧ ∃ g, w' = more w g
abbrev GetIs (z lo n r : Int) : Prop := ∀ w : World, Calls Tryd.prog 23 #[.int .u32 z, .int .i64 lo, .int .i64 n] w fun e w' => e = .returned (.int .u32 r) ∧ ∃ g, w' = more w g
abbrev ExtIs (z n r : Int) : Prop := ∀ w : World, Calls Tryd.prog 22 #[.int .u32 z, .int .i64 n] w fun e w' => e = .returned (.int .i64 r) ∧ ∃ g, w' = more w g
theorem As.ext_mod (z : Int) (m : Int) (hm : 0 < m) : As.ext m (z % m) = As.ext m z := by unfold As.ext; rw [Int.emod_emod]
set_option maxRecDepth 100000 in
set_option maxHeartbeats 1600000 in
theorem rdec0_a (z U V a b op c : Int) (u : Bool) (v : Bool) (w : World) (Hf : Hid (PartIs z 30 2 0)) (Hu : Hid (PartIs z 29 1 U)) (Hv : Hid (PartIs z 28 1 V)) (hu : (U == 1) = u) (hv : (V == 1) = v) (Ha : Hid (PartIs z 24 4 a)) (Hb : Hid (PartIs z 20 4 b)) (Ho : Hid (PartIs z 16 4 op)) (Hc : Hid (PartIs z 0 4 c)) (H : Hid (∀ w, Calls Tryd.prog 24 #[.agg #[.int .i64 0, .bool u, .bool v, .int .i64 a, .int .i64 b, .int .i64 c, .int .i64 op, .int .i64 0]] w fun e w' => e = .returned (.tuple #[.int .u32 0, .int .i64 20]) ∧ ∃ g, w' = more w g)) :
    Calls Tryd.prog 9 #[.int .u32 z] w fun e w' => e = .returned (.tuple #[.agg #[.int .i64 0, .bool false, .bool false, .int .i64 0, .int .i64 0, .int .i64 0, .int .i64 0, .int .i64 0], .int .i64 20]) ∧ ∃ g, w' = more w g := by
  go_enter Tryd.func9, Tryd.ntmps9
  go_wp2_with (first | (go_at_call 21; first | ((with_reducible refine (Hf.out _).mono ?_); rintro e w2 ⟨rfl, g, rfl⟩) | ((with_reducible refine (Hu.out _).mono ?_); rintro e w2 ⟨rfl, g, rfl⟩) | ((with_reducible refine (Hv.out _).mono ?_); rintro e w2 ⟨rfl, g, rfl⟩) | ((with_reducible refine (Ha.out _).mono ?_); rintro e w2 ⟨rfl, g, rfl⟩) | ((with_reducible refine (Hb.out _).mono ?_); rintro e w2 ⟨rfl, g, rfl⟩) | ((with_reducible refine (Ho.out _).mono ?_); rintro e w2 ⟨rfl, g, rfl⟩) | ((with_reducible refine (Hc.out _).mono ?_); rintro e w2 ⟨rfl, g, rfl⟩)) | (go_at_call 24; (with_reducible refine (H.out _).mono ?_); rintro e w2 ⟨rfl, g, rfl⟩))
  go_returns
  exact ⟨rfl, more_of_below (by repeat' (first | (with_reducible exact Below.refl _ _) | (with_reducible assumption) | (with_reducible refine below_more ?_ ?_ _) | (with_reducible refine below_drewN ?_ _) | (with_reducible refine Below.drew ?_) | (with_reducible refine Below.alloc ?_ ?_ _) | (with_reducible refine Below.setCell ?_ ?_ _) | go_size | (simp [more_size]; done) | (simp [more_size]; omega)))⟩
set_option maxRecDepth 100000 in
set_option maxHeartbeats 1600000 in
theorem rdec0_b (z U V a b op c : Int) (u : Bool) (v : Bool) (w : World) (Hf : Hid (PartIs z 30 2 0)) (Hu : Hid (PartIs z 29 1 U)) (Hv : Hid (PartIs z 28 1 V)) (hu : (U == 1) = u) (hv : (V == 1) = v) (Ha : Hid (PartIs z 24 4 a)) (Hb : Hid (PartIs z 20 4 b)) (Ho : Hid (PartIs z 16 4 op)) (Hc : Hid (PartIs z 0 4 c)) (E : Int) (hE : (E == z) = false) (hE2 : (E != z) = true) (H : Hid (∀ w, Calls Tryd.prog 24 #[.agg #[.int .i64 0, .bool u, .bool v, .int .i64 a, .int .i64 b, .int .i64 c, .int .i64 op, .int .i64 0]] w fun e w' => e = .returned (.tuple #[.int .u32 E, .int .i64 0]) ∧ ∃ g, w' = more w g)) :
    Calls Tryd.prog 9 #[.int .u32 z] w fun e w' => e = .returned (.tuple #[.agg #[.int .i64 0, .bool false, .bool false, .int .i64 0, .int .i64 0, .int .i64 0, .int .i64 0, .int .i64 0], .int .i64 20]) ∧ ∃ g, w' = more w g := by
  go_enter Tryd.func9, Tryd.ntmps9
  go_wp2_with (first | (go_at_call 21; first | ((with_reducible refine (Hf.out _).mono ?_); rintro e w2 ⟨rfl, g, rfl⟩) | ((with_reducible refine (Hu.out _).mono ?_); rintro e w2 ⟨rfl, g, rfl⟩) | ((with_reducible refine (Hv.out _).mono ?_); rintro e w2 ⟨rfl, g, rfl⟩) | ((with_reducible refine (Ha.out _).mono ?_); rintro e w2 ⟨rfl, g, rfl⟩) | ((with_reducible refine (Hb.out _).mono ?_); rintro e w2 ⟨rfl, g, rfl⟩) | ((with_reducible refine (Ho.out _).mono ?_); rintro e w2 ⟨rfl, g, rfl⟩) | ((with_reducible refine (Hc.out _).mono ?_); rintro e w2 ⟨rfl, g, rfl⟩)) | (go_at_call 24; (with_reducible refine (H.out _).mono ?_); rintro e w2 ⟨rfl, g, rfl⟩))
  go_returns
  exact ⟨rfl, more_of_below (by repeat' (first | (with_reducible exact Below.refl _ _) | (with_reducible assumption) | (with_reducible refine below_more ?_ ?_ _) | (with_reducible refine below_drewN ?_ _) | (with_reducible refine Below.drew ?_) | (with_reducible refine Below.alloc ?_ ?_ _) | (with_reducible refine Below.setCell ?_ ?_ _) | go_size | (simp [more_size]; done) | (simp [more_size]; omega)))⟩
set_option maxRecDepth 100000 in
set_option maxHeartbeats 1600000 in
theorem rdec0_c (z U V a b op c : Int) (u : Bool) (v : Bool) (w : World) (Hf : Hid (PartIs z 30 2 0)) (Hu : Hid (PartIs z 29 1 U)) (Hv : Hid (PartIs z 28 1 V)) (hu : (U == 1) = u) (hv : (V == 1) = v) (Ha : Hid (PartIs z 24 4 a)) (Hb : Hid (PartIs z 20 4 b)) (Ho : Hid (PartIs z 16 4 op)) (Hc : Hid (PartIs z 0 4 c)) (H : Hid (∀ w, Calls Tryd.prog 24 #[.agg #[.int .i64 0, .bool u, .bool v, .int .i64 a, .int .i64 b, .int .i64 c, .int .i64 op, .int .i64 0]] w fun e w' => e = .returned (.tuple #[.int .u32 z, .int .i64 0]) ∧ ∃ g, w' = more w g)) :
    Calls Tryd.prog 9 #[.int .u32 z] w fun e w' => e = .returned (.tuple #[.agg #[.int .i64 0, .bool u, .bool v, .int .i64 a, .int .i64 b, .int .i64 c, .int .i64 op, .int .i64 0], .int .i64 0]) ∧ ∃ g, w' = more w g := by
  go_enter Tryd.func9, Tryd.ntmps9
  go_wp2_with (first | (go_at_call 21; first | ((with_reducible refine (Hf.out _).mono ?_); rintro e w2 ⟨rfl, g, rfl⟩) | ((with_reducible refine (Hu.out _).mono ?_); rintro e w2 ⟨rfl, g, rfl⟩) | ((with_reducible refine (Hv.out _).mono ?_); rintro e w2 ⟨rfl, g, rfl⟩) | ((with_reducible refine (Ha.out _).mono ?_); rintro e w2 ⟨rfl, g, rfl⟩) | ((with_reducible refine (Hb.out _).mono ?_); rintro e w2 ⟨rfl, g, rfl⟩) | ((with_reducible refine (Ho.out _).mono ?_); rintro e w2 ⟨rfl, g, rfl⟩) | ((with_reducible refine (Hc.out _).mono ?_); rintro e w2 ⟨rfl, g, rfl⟩)) | (go_at_call 24; (with_reducible refine (H.out _).mono ?_); rintro e w2 ⟨rfl, g, rfl⟩))
  go_returns
  exact ⟨rfl, more_of_below (by repeat' (first | (with_reducible exact Below.refl _ _) | (with_reducible assumption) | (with_reducible refine below_more ?_ ?_ _) | (with_reducible refine below_drewN ?_ _) | (with_reducible refine Below.drew ?_) | (with_reducible refine Below.alloc ?_ ?_ _) | (with_reducible refine Below.setCell ?_ ?_ _) | go_size | (simp [more_size]; done) | (simp [more_size]; omega)))⟩
set_option maxRecDepth 100000 in
set_option maxHeartbeats 1600000 in
theorem rdec1_a (z U V a b op n : Int) (u : Bool) (v : Bool) (w : World) (Hf : Hid (PartIs z 30 2 1)) (Hu : Hid (PartIs z 29 1 U)) (Hv : Hid (PartIs z 28 1 V)) (hu : (U == 1) = u) (hv : (V == 1) = v) (Ha : Hid (PartIs z 24 4 a)) (Hb : Hid (PartIs z 20 4 b)) (Ho : Hid (PartIs z 16 4 op)) (Hn : Hid (PartIs z 0 16 n)) (H : Hid (∀ w, Calls Tryd.prog 24 #[.agg #[.int .i64 1, .bool u, .bool v, .int .i64 a, .int .i64 b, .int .i64 0, .int .i64 op, .int .i64 n]] w fun e w' => e = .returned (.tuple #[.int .u32 0, .int .i64 20]) ∧ ∃ g, w' = more w g)) :
    Calls Tryd.prog 9 #[.int .u32 z] w fun e w' => e = .returned (.tuple #[.agg #[.int .i64 0, .bool false, .bool false, .int .i64 0, .int .i64 0, .int .i64 0, .int .i64 0, .int .i64 0], .int .i64 20]) ∧ ∃ g, w' = more w g := by
  go_enter Tryd.func9, Tryd.ntmps9
  go_wp2_with (first | (go_at_call 21; first | ((with_reducible refine (Hf.out _).mono ?_); rintro e w2 ⟨rfl, g, rfl⟩) | ((with_reducible refine (Hu.out _).mono ?_); rintro e w2 ⟨rfl, g, rfl⟩) | ((with_reducible refine (Hv.out _).mono ?_); rintro e w2 ⟨rfl, g, rfl⟩) | ((with_reducible refine (Ha.out _).mono ?_); rintro e w2 ⟨rfl, g, rfl⟩) | ((with_reducible refine (Hb.out _).mono ?_); rintro e w2 ⟨rfl, g, rfl⟩) | ((with_reducible refine (Ho.out _).mono ?_); rintro e w2 ⟨rfl, g, rfl⟩) | ((with_reducible refine (Hn.out _).mono ?_); rintro e w2 ⟨rfl, g, rfl⟩)) | (go_at_call 24; (with_reducible refine (H.out _).mono ?_); rintro e w2 ⟨rfl, g, rfl⟩))
  go_returns
  exact ⟨rfl, more_of_below (by repeat' (first | (with_reducible exact Below.refl _ _) | (with_reducible assumption) | (with_reducible refine below_more ?_ ?_ _) | (with_reducible refine below_drewN ?_ _) | (with_reducible refine Below.drew ?_) | (with_reducible refine Below.alloc ?_ ?_ _) | (with_reducible refine Below.setCell ?_ ?_ _) | go_size | (simp [more_size]; done) | (simp [more_size]; omega)))⟩
set_option maxRecDepth 100000 in
set_option maxHeartbeats 1600000 in
theorem rdec1_b (z U V a b op n : Int) (u : Bool) (v : Bool) (w : World) (Hf : Hid (PartIs z 30 2 1)) (Hu : Hid (PartIs z 29 1 U)) (Hv : Hid (PartIs z 28 1 V)) (hu : (U == 1) = u) (hv : (V == 1) = v) (Ha : Hid (PartIs z 24 4 a)) (Hb : Hid (PartIs z 20 4 b)) (Ho : Hid (PartIs z 16 4 op)) (Hn : Hid (PartIs z 0 16 n)) (E : Int) (hE : (E == z) = false) (hE2 : (E != z) = true) (H : Hid (∀ w, Calls Tryd.prog 24 #[.agg #[.int .i64 1, .bool u, .bool v, .int .i64 a, .int .i64 b, .int .i64 0, .int .i64 op, .int .i64 n]] w fun e w' => e = .returned (.tuple #[.int .u32 E, .int .i64 0]) ∧ ∃ g, w' = more w g)) :
    Calls Tryd.prog 9 #[.int .u32 z] w fun e w' => e = .returned (.tuple #[.agg #[.int .i64 0, .bool false, .bool false, .int .i64 0, .int .i64 0, .int .i64 0, .int .i64 0, .int .i64 0], .int .i64 20]) ∧ ∃ g, w' = more w g := by
  go_enter Tryd.func9, Tryd.ntmps9
  go_wp2_with (first | (go_at_call 21; first | ((with_reducible refine (Hf.out _).mono ?_); rintro e w2 ⟨rfl, g, rfl⟩) | ((with_reducible refine (Hu.out _).mono ?_); rintro e w2 ⟨rfl, g, rfl⟩) | ((with_reducible refine (Hv.out _).mono ?_); rintro e w2 ⟨rfl, g, rfl⟩) | ((with_reducible refine (Ha.out _).mono ?_); rintro e w2 ⟨rfl, g, rfl⟩) | ((with_reducible refine (Hb.out _).mono ?_); rintro e w2 ⟨rfl, g, rfl⟩) | ((with_reducible refine (Ho.out _).mono ?_); rintro e w2 ⟨rfl, g, rfl⟩) | ((with_reducible refine (Hn.out _).mono ?_); rintro e w2 ⟨rfl, g, rfl⟩)) | (go_at_call 24; (with_reducible refine (H.out _).mono ?_); rintro e w2 ⟨rfl, g, rfl⟩))
  go_returns
  exact ⟨rfl, more_of_below (by repeat' (first | (with_reducible exact Below.refl _ _) | (with_reducible assumption) | (with_reducible refine below_more ?_ ?_ _) | (with_reducible refine below_drewN ?_ _) | (with_reducible refine Below.drew ?_) | (with_reducible refine Below.alloc ?_ ?_ _) | (with_reducible refine Below.setCell ?_ ?_ _) | go_size | (simp [more_size]; done) | (simp [more_size]; omega)))⟩
set_option maxRecDepth 100000 in
set_option maxHeartbeats 1600000 in
theorem rdec1_c (z U V a b op n : Int) (u : Bool) (v : Bool) (w : World) (Hf : Hid (PartIs z 30 2 1)) (Hu : Hid (PartIs z 29 1 U)) (Hv : Hid (PartIs z 28 1 V)) (hu : (U == 1) = u) (hv : (V == 1) = v) (Ha : Hid (PartIs z 24 4 a)) (Hb : Hid (PartIs z 20 4 b)) (Ho : Hid (PartIs z 16 4 op)) (Hn : Hid (PartIs z 0 16 n)) (H : Hid (∀ w, Calls Tryd.prog 24 #[.agg #[.int .i64 1, .bool u, .bool v, .int .i64 a, .int .i64 b, .int .i64 0, .int .i64 op, .int .i64 n]] w fun e w' => e = .returned (.tuple #[.int .u32 z, .int .i64 0]) ∧ ∃ g, w' = more w g)) :
    Calls Tryd.prog 9 #[.int .u32 z] w fun e w' => e = .returned (.tuple #[.agg #[.int .i64 1, .bool u, .bool v, .int .i64 a, .int .i64 b, .int .i64 0, .int .i64 op, .int .i64 n], .int .i64 0]) ∧ ∃ g, w' = more w g := by
  go_enter Tryd.func9, Tryd.ntmps9
  go_wp2_with (first | (go_at_call 21; first | ((with_reducible refine (Hf.out _).mono ?_); rintro e w2 ⟨rfl, g, rfl⟩) | ((with_reducible refine (Hu.out _).mono ?_); rintro e w2 ⟨rfl, g, rfl⟩) | ((with_reducible refine (Hv.out _).mono ?_); rintro e w2 ⟨rfl, g, rfl⟩) | ((with_reducible refine (Ha.out _).mono ?_); rintro e w2 ⟨rfl, g, rfl⟩) | ((with_reducible refine (Hb.out _).mono ?_); rintro e w2 ⟨rfl, g, rfl⟩) | ((with_reducible refine (Ho.out _).mono ?_); rintro e w2 ⟨rfl, g, rfl⟩) | ((with_reducible refine (Hn.out _).mono ?_); rintro e w2 ⟨rfl, g, rfl⟩)) | (go_at_call 24; (with_reducible refine (H.out _).mono ?_); rintro e w2 ⟨rfl, g, rfl⟩))
  go_returns
  exact ⟨rfl, more_of_below (by repeat' (first | (with_reducible exact Below.refl _ _) | (with_reducible assumption) | (with_reducible refine below_more ?_ ?_ _) | (with_reducible refine below_drewN ?_ _) | (with_reducible refine Below.drew ?_) | (with_reducible refine Below.alloc ?_ ?_ _) | (with_reducible refine Below.setCell ?_ ?_ _) | go_size | (simp [more_size]; done) | (simp [more_size]; omega)))⟩
set_option maxRecDepth 100000 in
set_option maxHeartbeats 1600000 in
theorem rdec2_a (z U V a b n : Int) (u : Bool) (v : Bool) (w : World) (Hf : Hid (PartIs z 30 2 2)) (Hu : Hid (PartIs z 29 1 U)) (Hv : Hid (PartIs z 28 1 V)) (hu : (U == 1) = u) (hv : (V == 1) = v) (Ha : Hid (PartIs z 24 4 a)) (Hb : Hid (PartIs z 20 4 b)) (y : Int) (Hy : Hid (GetIs z 0 20 y)) (Hn : Hid (ExtIs y 20 n)) (H : Hid (∀ w, Calls Tryd.prog 24 #[.agg #[.int .i64 2, .bool u, .bool v, .int .i64 a, .int .i64 b, .int .i64 0, .int .i64 0, .int .i64 n]] w fun e w' => e = .returned (.tuple #[.int .u32 0, .int .i64 20]) ∧ ∃ g, w' = more w g)) :
    Calls Tryd.prog 9 #[.int .u32 z] w fun e w' => e = .returned (.tuple #[.agg #[.int .i64 0, .bool false, .bool false, .int .i64 0, .int .i64 0, .int .i64 0, .int .i64 0, .int .i64 0], .int .i64 20]) ∧ ∃ g, w' = more w g := by
  go_enter Tryd.func9, Tryd.ntmps9
  go_wp2_with (first | (go_at_call 21; first | ((with_reducible refine (Hf.out _).mono ?_); rintro e w2 ⟨rfl, g, rfl⟩) | ((with_reducible refine (Hu.out _).mono ?_); rintro e w2 ⟨rfl, g, rfl⟩) | ((with_reducible refine (Hv.out _).mono ?_); rintro e w2 ⟨rfl, g, rfl⟩) | ((with_reducible refine (Ha.out _).mono ?_); rintro e w2 ⟨rfl, g, rfl⟩) | ((with_reducible refine (Hb.out _).mono ?_); rintro e w2 ⟨rfl, g, rfl⟩)) | (go_at_call 23; (with_reducible refine (Hy.out _).mono ?_); rintro e w2 ⟨rfl, g, rfl⟩) | (go_at_call 22; (with_reducible refine (Hn.out _).mono ?_); rintro e w2 ⟨rfl, g, rfl⟩) | (go_at_call 24; (with_reducible refine (H.out _).mono ?_); rintro e w2 ⟨rfl, g, rfl⟩))
  go_returns
  exact ⟨rfl, more_of_below (by repeat' (first | (with_reducible exact Below.refl _ _) | (with_reducible assumption) | (with_reducible refine below_more ?_ ?_ _) | (with_reducible refine below_drewN ?_ _) | (with_reducible refine Below.drew ?_) | (with_reducible refine Below.alloc ?_ ?_ _) | (with_reducible refine Below.setCell ?_ ?_ _) | go_size | (simp [more_size]; done) | (simp [more_size]; omega)))⟩
set_option maxRecDepth 100000 in
set_option maxHeartbeats 1600000 in
theorem rdec2_b (z U V a b n : Int) (u : Bool) (v : Bool) (w : World) (Hf : Hid (PartIs z 30 2 2)) (Hu : Hid (PartIs z 29 1 U)) (Hv : Hid (PartIs z 28 1 V)) (hu : (U == 1) = u) (hv : (V == 1) = v) (Ha : Hid (PartIs z 24 4 a)) (Hb : Hid (PartIs z 20 4 b)) (y : Int) (Hy : Hid (GetIs z 0 20 y)) (Hn : Hid (ExtIs y 20 n)) (E : Int) (hE : (E == z) = false) (hE2 : (E != z) = true) (H : Hid (∀ w, Calls Tryd.prog 24 #[.agg #[.int .i64 2, .bool u, .bool v, .int .i64 a, .int .i64 b, .int .i64 0, .int .i64 0, .int .i64 n]] w fun e w' => e = .returned (.tuple #[.int .u32 E, .int .i64 0]) ∧ ∃ g, w' = more w g)) :
    Calls Tryd.prog 9 #[.int .u32 z] w fun e w' => e = .returned (.tuple #[.agg #[.int .i64 0, .bool false, .bool false, .int .i64 0, .int .i64 0, .int .i64 0, .int .i64 0, .int .i64 0], .int .i64 20]) ∧ ∃ g, w' = more w g := by
  go_enter Tryd.func9, Tryd.ntmps9
  go_wp2_with (first | (go_at_call 21; first | ((with_reducible refine (Hf.out _).mono ?_); rintro e w2 ⟨rfl, g, rfl⟩) | ((with_reducible refine (Hu.out _).mono ?_); rintro e w2 ⟨rfl, g, rfl⟩) | ((with_reducible refine (Hv.out _).mono ?_); rintro e w2 ⟨rfl, g, rfl⟩) | ((with_reducible refine (Ha.out _).mono ?_); rintro e w2 ⟨rfl, g, rfl⟩) | ((with_reducible refine (Hb.out _).mono ?_); rintro e w2 ⟨rfl, g, rfl⟩)) | (go_at_call 23; (with_reducible refine (Hy.out _).mono ?_); rintro e w2 ⟨rfl, g, rfl⟩) | (go_at_call 22; (with_reducible refine (Hn.out _).mono ?_); rintro e w2 ⟨rfl, g, rfl⟩) | (go_at_call 24; (with_reducible refine (H.out _).mono ?_); rintro e w2 ⟨rfl, g, rfl⟩))
  go_returns
  exact ⟨rfl, more_of_below (by repeat' (first | (with_reducible exact Below.refl _ _) | (with_reducible assumption) | (with_reducible refine below_more ?_ ?_ _) | (with_reducible refine below_drewN ?_ _) | (with_reducible refine Below.drew ?_) | (with_reducible refine Below.alloc ?_ ?_ _) | (with_reducible refine Below.setCell ?_ ?_ _) | go_size | (simp [more_size]; done) | (simp [more_size]; omega)))⟩
set_option maxRecDepth 100000 in
set_option maxHeartbeats 1600000 in
theorem rdec2_c (z U V a b n : Int) (u : Bool) (v : Bool) (w : World) (Hf : Hid (PartIs z 30 2 2)) (Hu : Hid (PartIs z 29 1 U)) (Hv : Hid (PartIs z 28 1 V)) (hu : (U == 1) = u) (hv : (V == 1) = v) (Ha : Hid (PartIs z 24 4 a)) (Hb : Hid (PartIs z 20 4 b)) (y : Int) (Hy : Hid (GetIs z 0 20 y)) (Hn : Hid (ExtIs y 20 n)) (H : Hid (∀ w, Calls Tryd.prog 24 #[.agg #[.int .i64 2, .bool u, .bool v, .int .i64 a, .int .i64 b, .int .i64 0, .int .i64 0, .int .i64 n]] w fun e w' => e = .returned (.tuple #[.int .u32 z, .int .i64 0]) ∧ ∃ g, w' = more w g)) :
    Calls Tryd.prog 9 #[.int .u32 z] w fun e w' => e = .returned (.tuple #[.agg #[.int .i64 2, .bool u, .bool v, .int .i64 a, .int .i64 b, .int .i64 0, .int .i64 0, .int .i64 n], .int .i64 0]) ∧ ∃ g, w' = more w g := by
  go_enter Tryd.func9, Tryd.ntmps9
  go_wp2_with (first | (go_at_call 21; first | ((with_reducible refine (Hf.out _).mono ?_); rintro e w2 ⟨rfl, g, rfl⟩) | ((with_reducible refine (Hu.out _).mono ?_); rintro e w2 ⟨rfl, g, rfl⟩) | ((with_reducible refine (Hv.out _).mono ?_); rintro e w2 ⟨rfl, g, rfl⟩) | ((with_reducible refine (Ha.out _).mono ?_); rintro e w2 ⟨rfl, g, rfl⟩) | ((with_reducible refine (Hb.out _).mono ?_); rintro e w2 ⟨rfl, g, rfl⟩)) | (go_at_call 23; (with_reducible refine (Hy.out _).mono ?_); rintro e w2 ⟨rfl, g, rfl⟩) | (go_at_call 22; (with_reducible refine (Hn.out _).mono ?_); rintro e w2 ⟨rfl, g, rfl⟩) | (go_at_call 24; (with_reducible refine (H.out _).mono ?_); rintro e w2 ⟨rfl, g, rfl⟩))
  go_returns
  exact ⟨rfl, more_of_below (by repeat' (first | (with_reducible exact Below.refl _ _) | (with_reducible assumption) | (with_reducible refine below_more ?_ ?_ _) | (with_reducible refine below_drewN ?_ _) | (with_reducible refine Below.drew ?_) | (with_reducible refine Below.alloc ?_ ?_ _) | (with_reducible refine Below.setCell ?_ ?_ _) | go_size | (simp [more_size]; done) | (simp [more_size]; omega)))⟩
set_option maxRecDepth 100000 in
set_option maxHeartbeats 1600000 in
theorem rdec3t_a (z U V a n : Int) (v : Bool) (w : World) (Hf : Hid (PartIs z 30 2 3)) (Hu : Hid (PartIs z 29 1 U)) (Hv : Hid (PartIs z 28 1 V)) (hu : (U == 1) = true) (hv : (V == 1) = v) (Ha : Hid (PartIs z 24 4 a)) (y : Int) (Hy : Hid (GetIs z 0 24 y)) (Hn : Hid (ExtIs y 24 n)) (H : Hid (∀ w, Calls Tryd.prog 24 #[.agg #[.int .i64 3, .bool true, .bool v, .int .i64 a, .int .i64 0, .int .i64 0, .int .i64 0, .int .i64 n]] w fun e w' => e = .returned (.tuple #[.int .u32 0, .int .i64 20]) ∧ ∃ g, w' = more w g)) :
    Calls Tryd.prog 9 #[.int .u32 z] w fun e w' => e = .returned (.tuple #[.agg #[.int .i64 0, .bool false, .bool false, .int .i64 0, .int .i64 0, .int .i64 0, .int .i64 0, .int .i64 0], .int .i64 20]) ∧ ∃ g, w' = more w g := by
  go_enter Tryd.func9, Tryd.ntmps9
  go_wp2_with (first | (go_at_call 21; first | ((with_reducible refine (Hf.out _).mono ?_); rintro e w2 ⟨rfl, g, rfl⟩) | ((with_reducible refine (Hu.out _).mono ?_); rintro e w2 ⟨rfl, g, rfl⟩) | ((with_reducible refine (Hv.out _).mono ?_); rintro e w2 ⟨rfl, g, rfl⟩) | ((with_reducible refine (Ha.out _).mono ?_); rintro e w2 ⟨rfl, g, rfl⟩)) | (go_at_call 23; (with_reducible refine (Hy.out _).mono ?_); rintro e w2 ⟨rfl, g, rfl⟩) | (go_at_call 22; (with_reducible refine (Hn.out _).mono ?_); rintro e w2 ⟨rfl, g, rfl⟩) | (go_at_call 24; (with_reducible refine (H.out _).mono ?_); rintro e w2 ⟨rfl, g, rfl⟩))
  go_returns
  exact ⟨rfl, more_of_below (by repeat' (first | (with_reducible exact Below.refl _ _) | (with_reducible assumption) | (with_reducible refine below_more ?_ ?_ _) | (with_reducible refine below_drewN ?_ _) | (with_reducible refine Below.drew ?_) | (with_reducible refine Below.alloc ?_ ?_ _) | (with_reducible refine Below.setCell ?_ ?_ _) | go_size | (simp [more_size]; done) | (simp [more_size]; omega)))⟩
set_option maxRecDepth 100000 in
set_option maxHeartbeats 1600000 in
theorem rdec3t_b (z U V a n : Int) (v : Bool) (w : World) (Hf : Hid (PartIs z 30 2 3)) (Hu : Hid (PartIs z 29 1 U)) (Hv : Hid (PartIs z 28 1 V)) (hu : (U == 1) = true) (hv : (V == 1) = v) (Ha : Hid (PartIs z 24 4 a)) (y : Int) (Hy : Hid (GetIs z 0 24 y)) (Hn : Hid (ExtIs y 24 n)) (E : Int) (hE : (E == z) = false) (hE2 : (E != z) = true) (H : Hid (∀ w, Calls Tryd.prog 24 #[.agg #[.int .i64 3, .bool true, .bool v, .int .i64 a, .int .i64 0, .int .i64 0, .int .i64 0, .int .i64 n]] w fun e w' => e = .returned (.tuple #[.int .u32 E, .int .i64 0]) ∧ ∃ g, w' = more w g)) :
    Calls Tryd.prog 9 #[.int .u32 z] w fun e w' => e = .returned (.tuple #[.agg #[.int .i64 0, .bool false, .bool false, .int .i64 0, .int .i64 0, .int .i64 0, .int .i64 0, .int .i64 0], .int .i64 20]) ∧ ∃ g, w' = more w g := by
  go_enter Tryd.func9, Tryd.ntmps9
  go_wp2_with (first | (go_at_call 21; first | ((with_reducible refine (Hf.out _).mono ?_); rintro e w2 ⟨rfl, g, rfl⟩) | ((with_reducible refine (Hu.out _).mono ?_); rintro e w2 ⟨rfl, g, rfl⟩) | ((with_reducible refine (Hv.out _).mono ?_); rintro e w2 ⟨rfl, g, rfl⟩) | ((with_reducible refine (Ha.out _).mono ?_); rintro e w2 ⟨rfl, g, rfl⟩)) | (go_at_call 23; (with_reducible refine (Hy.out _).mono ?_); rintro e w2 ⟨rfl, g, rfl⟩) | (go_at_call 22; (with_reducible refine (Hn.out _).mono ?_); rintro e w2 ⟨rfl, g, rfl⟩) | (go_at_call 24; (with_reducible refine (H.out _).mono ?_); rintro e w2 ⟨rfl, g, rfl⟩))
  go_returns
  exact ⟨rfl, more_of_below (by repeat' (first | (with_reducible exact Below.refl _ _) | (with_reducible assumption) | (with_reducible refine below_more ?_ ?_ _) | (with_reducible refine below_drewN ?_ _) | (with_reducible refine Below.drew ?_) | (with_reducible refine Below.alloc ?_ ?_ _) | (with_reducible refine Below.setCell ?_ ?_ _) | go_size | (simp [more_size]; done) | (simp [more_size]; omega)))⟩
set_option maxRecDepth 100000 in
set_option maxHeartbeats 1600000 in
theorem rdec3t_c (z U V a n : Int) (v : Bool) (w : World) (Hf : Hid (PartIs z 30 2 3)) (Hu : Hid (PartIs z 29 1 U)) (Hv : Hid (PartIs z 28 1 V)) (hu : (U == 1) = true) (hv : (V == 1) = v) (Ha : Hid (PartIs z 24 4 a)) (y : Int) (Hy : Hid (GetIs z 0 24 y)) (Hn : Hid (ExtIs y 24 n)) (H : Hid (∀ w, Calls Tryd.prog 24 #[.agg #[.int .i64 3, .bool true, .bool v, .int .i64 a, .int .i64 0, .int .i64 0, .int .i64 0, .int .i64 n]] w fun e w' => e = .returned (.tuple #[.int .u32 z, .int .i64 0]) ∧ ∃ g, w' = more w g)) :
    Calls Tryd.prog 9 #[.int .u32 z] w fun e w' => e = .returned (.tuple #[.agg #[.int .i64 3, .bool true, .bool v, .int .i64 a, .int .i64 0, .int .i64 0, .int .i64 0, .int .i64 n], .int .i64 0]) ∧ ∃ g, w' = more w g := by
  go_enter Tryd.func9, Tryd.ntmps9
  go_wp2_with (first | (go_at_call 21; first | ((with_reducible refine (Hf.out _).mono ?_); rintro e w2 ⟨rfl, g, rfl⟩) | ((with_reducible refine (Hu.out _).mono ?_); rintro e w2 ⟨rfl, g, rfl⟩) | ((with_reducible refine (Hv.out _).mono ?_); rintro e w2 ⟨rfl, g, rfl⟩) | ((with_reducible refine (Ha.out _).mono ?_); rintro e w2 ⟨rfl, g, rfl⟩)) | (go_at_call 23; (with_reducible refine (Hy.out _).mono ?_); rintro e w2 ⟨rfl, g, rfl⟩) | (go_at_call 22; (with_reducible refine (Hn.out _).mono ?_); rintro e w2 ⟨rfl, g, rfl⟩) | (go_at_call 24; (with_reducible refine (H.out _).mono ?_); rintro e w2 ⟨rfl, g, rfl⟩))
  go_returns
  exact ⟨rfl, more_of_below (by repeat' (first | (with_reducible exact Below.refl _ _) | (with_reducible assumption) | (with_reducible refine below_more ?_ ?_ _) | (with_reducible refine below_drewN ?_ _) | (with_reducible refine Below.drew ?_) | (with_reducible refine Below.alloc ?_ ?_ _) | (with_reducible refine Below.setCell ?_ ?_ _) | go_size | (simp [more_size]; done) | (simp [more_size]; omega)))⟩
set_option maxRecDepth 100000 in
set_option maxHeartbeats 1600000 in
theorem rdec3f_a (z U V a c : Int) (v : Bool) (w : World) (Hf : Hid (PartIs z 30 2 3)) (Hu : Hid (PartIs z 29 1 U)) (Hv : Hid (PartIs z 28 1 V)) (hu : (U == 1) = false) (hv : (V == 1) = v) (Ha : Hid (PartIs z 24 4 a)) (Hc : Hid (PartIs z 0 4 c)) (H : Hid (∀ w, Calls Tryd.prog 24 #[.agg #[.int .i64 3, .bool false, .bool v, .int .i64 a, .int .i64 0, .int .i64 c, .int .i64 0, .int .i64 0]] w fun e w' => e = .returned (.tuple #[.int .u32 0, .int .i64 20]) ∧ ∃ g, w' = more w g)) :
    Calls Tryd.prog 9 #[.int .u32 z] w fun e w' => e = .returned (.tuple #[.agg #[.int .i64 0, .bool false, .bool false, .int .i64 0, .int .i64 0, .int .i64 0, .int .i64 0, .int .i64 0], .int .i64 20]) ∧ ∃ g, w' = more w g := by
  go_enter Tryd.func9, Tryd.ntmps9
  go_wp2_with (first | (go_at_call 21; first | ((with_reducible refine (Hf.out _).mono ?_); rintro e w2 ⟨rfl, g, rfl⟩) | ((with_reducible refine (Hu.out _).mono ?_); rintro e w2 ⟨rfl, g, rfl⟩) | ((with_reducible refine (Hv.out _).mono ?_); rintro e w2 ⟨rfl, g, rfl⟩) | ((with_reducible refine (Ha.out _).mono ?_); rintro e w2 ⟨rfl, g, rfl⟩) | ((with_reducible refine (Hc.out _).mono ?_); rintro e w2 ⟨rfl, g, rfl⟩)) | (go_at_call 24; (with_reducible refine (H.out _).mono ?_); rintro e w2 ⟨rfl, g, rfl⟩))
  go_returns
  exact ⟨rfl, more_of_below (by repeat' (first | (with_reducible exact Below.refl _ _) | (with_reducible assumption) | (with_reducible refine below_more ?_ ?_ _) | (with_reducible refine below_drewN ?_ _) | (with_reducible refine Below.drew ?_) | (with_reducible refine Below.alloc ?_ ?_ _) | (with_reducible refine Below.setCell ?_ ?_ _) | go_size | (simp [more_size]; done) | (simp [more_size]; omega)))⟩
set_option maxRecDepth 100000 in
set_option maxHeartbeats 1600000 in
theorem rdec3f_b (z U V a c : Int) (v : Bool) (w : World) (Hf : Hid (PartIs z 30 2 3)) (Hu : Hid (PartIs z 29 1 U)) (Hv : Hid (PartIs z 28 1 V)) (hu : (U == 1) = false) (hv : (V == 1) = v) (Ha : Hid (PartIs z 24 4 a)) (Hc : Hid (PartIs z 0 4 c)) (E : Int) (hE : (E == z) = false) (hE2 : (E != z) = true) (H : Hid (∀ w, Calls Tryd.prog 24 #[.agg #[.int .i64 3, .bool false, .bool v, .int .i64 a, .int .i64 0, .int .i64 c, .int .i64 0, .int .i64 0]] w fun e w' => e = .returned (.tuple #[.int .u32 E, .int .i64 0]) ∧ ∃ g, w' = more w g)) :
    Calls Tryd.prog 9 #[.int .u32 z] w fun e w' => e = .returned (.tuple #[.agg #[.int .i64 0, .bool false, .bool false, .int .i64 0, .int .i64 0, .int .i64 0, .int .i64 0, .int .i64 0], .int .i64 20]) ∧ ∃ g, w' = more w g := by
  go_enter Tryd.func9, Tryd.ntmps9
  go_wp2_with (first | (go_at_call 21; first | ((with_reducible refine (Hf.out _).mono ?_); rintro e w2 ⟨rfl, g, rfl⟩) | ((with_reducible refine (Hu.out _).mono ?_); rintro e w2 ⟨rfl, g, rfl⟩) | ((with_reducible refine (Hv.out _).mono ?_); rintro e w2 ⟨rfl, g, rfl⟩) | ((with_reducible refine (Ha.out _).mono ?_); rintro e w2 ⟨rfl, g, rfl⟩) | ((with_reducible refine (Hc.out _).mono ?_); rintro e w2 ⟨rfl, g, rfl⟩)) | (go_at_call 24; (with_reducible refine (H.out _).mono ?_); rintro e w2 ⟨rfl, g, rfl⟩))
  go_returns
  exact ⟨rfl, more_of_below (by repeat' (first | (with_reducible exact Below.refl _ _) | (with_reducible assumption) | (with_reducible refine below_more ?_ ?_ _) | (with_reducible refine below_drewN ?_ _) | (with_reducible refine Below.drew ?_) | (with_reducible refine Below.alloc ?_ ?_ _) | (with_reducible refine Below.setCell ?_ ?_ _) | go_size | (simp [more_size]; done) | (simp [more_size]; omega)))⟩
set_option maxRecDepth 100000 in
set_option maxHeartbeats 1600000 in
theorem rdec3f_c (z U V a c : Int) (v : Bool) (w : World) (Hf : Hid (PartIs z 30 2 3)) (Hu : Hid (PartIs z 29 1 U)) (Hv : Hid (PartIs z 28 1 V)) (hu : (U == 1) = false) (hv : (V == 1) = v) (Ha : Hid (PartIs z 24 4 a)) (Hc : Hid (PartIs z 0 4 c)) (H : Hid (∀ w, Calls Tryd.prog 24 #[.agg #[.int .i64 3, .bool false, .bool v, .int .i64 a, .int .i64 0, .int .i64 c, .int .i64 0, .int .i64 0]] w fun e w' => e = .returned (.tuple #[.int .u32 z, .int .i64 0]) ∧ ∃ g, w' = more w g)) :
    Calls Tryd.prog 9 #[.int .u32 z] w fun e w' => e = .returned (.tuple #[.agg #[.int .i64 3, .bool false, .bool v, .int .i64 a, .int .i64 0, .int .i64 c, .int .i64 0, .int .i64 0], .int .i64 0]) ∧ ∃ g, w' = more w g := by
  go_enter Tryd.func9, Tryd.ntmps9
  go_wp2_with (first | (go_at_call 21; first | ((with_reducible refine (Hf.out _).mono ?_); rintro e w2 ⟨rfl, g, rfl⟩) | ((with_reducible refine (Hu.out _).mono ?_); rintro e w2 ⟨rfl, g, rfl⟩) | ((with_reducible refine (Hv.out _).mono ?_); rintro e w2 ⟨rfl, g, rfl⟩) | ((with_reducible refine (Ha.out _).mono ?_); rintro e w2 ⟨rfl, g, rfl⟩) | ((with_reducible refine (Hc.out _).mono ?_); rintro e w2 ⟨rfl, g, rfl⟩)) | (go_at_call 24; (with_reducible refine (H.out _).mono ?_); rintro e w2 ⟨rfl, g, rfl⟩))
  go_returns
  exact ⟨rfl, more_of_below (by repeat' (first | (with_reducible exact Below.refl _ _) | (with_reducible assumption) | (with_reducible refine below_more ?_ ?_ _) | (with_reducible refine below_drewN ?_ _) | (with_reducible refine Below.drew ?_) | (with_reducible refine Below.alloc ?_ ?_ _) | (with_reducible refine Below.setCell ?_ ?_ _) | go_size | (simp [more_size]; done) | (simp [more_size]; omega)))⟩
theorem rdec_of (z : Int) (w : World) (h0 : 0 ≤ z) (h1 : z < 4294967296) (x : As.Ins) (hx : As.raw z = x)
    (A : ¬ As.Good x → Hid (∀ w, Calls Tryd.prog 24 #[As.iv x] w fun e w' => e = .returned (.tuple #[.int .u32 0, .int .i64 20]) ∧ ∃ g, w' = more w g) → Calls Tryd.prog 9 #[.int .u32 z] w fun e w' => e = .returned (.tuple #[As.iv As.zero, .int .i64 20]) ∧ ∃ g, w' = more w g)
    (B : As.Good x → As.enc x ≠ z → Hid (∀ w, Calls Tryd.prog 24 #[As.iv x] w fun e w' => e = .returned (.tuple #[.int .u32 (As.enc x), .int .i64 0]) ∧ ∃ g, w' = more w g) → Calls Tryd.prog 9 #[.int .u32 z] w fun e w' => e = .returned (.tuple #[As.iv As.zero, .int .i64 20]) ∧ ∃ g, w' = more w g)
    (C : As.Good x → As.enc x = z → Hid (∀ w, Calls Tryd.prog 24 #[As.iv x] w fun e w' => e = .returned (.tuple #[.int .u32 z, .int .i64 0]) ∧ ∃ g, w' = more w g) → Calls Tryd.prog 9 #[.int .u32 z] w fun e w' => e = .returned (.tuple #[As.iv x, .int .i64 0]) ∧ ∃ g, w' = more w g) :
    Calls Tryd.prog 9 #[.int .u32 z] w fun e w' => e = .returned (.tuple #[As.iv (As.decD z).1, .int .i64 (As.decD z).2]) ∧ ∃ g, w' = more w g := by
  have hfx : 0 ≤ x.f ∧ x.f ≤ 3 := by
    subst hx
    have : (As.raw z).f = z / 1073741824 := by
      unfold As.raw
      simp only
      split
      · rfl
      · split
        · rfl
        · split
          · rfl
          · split <;> rfl
    omega
  by_cases hg : As.Good x
  · by_cases he : As.enc x = z
    · rw [As.decD_yes hx hg he]
      exact C hg he (Lib.hid fun w => by have := renc_yes hg w; rw [he] at this; exact this)
    · rw [As.decD_no hx (fun h => he h.2)]
      exact B hg he (Lib.hid fun w => renc_yes hg w)
  · rw [As.decD_no hx (fun h => hg h.1)]
    exact A hg (Lib.hid fun w => renc_no x.f x.u x.v x.a x.b x.c x.op x.n hfx hg w)
theorem rdec_any (z : Int) (w : World) (h0 : 0 ≤ z) (h1 : z < 4294967296) :
    Calls Tryd.prog 9 #[.int .u32 z] w fun e w' => e = .returned (.tuple #[As.iv (As.decD z).1, .int .i64 (As.decD z).2]) ∧ ∃ g, w' = more w g := by
  have hf : z / 1073741824 = 0 ∨ z / 1073741824 = 1 ∨ z / 1073741824 = 2 ∨ z / 1073741824 = 3 := by omega
  have e4 : z / 1073741824 % 4 = z / 1073741824 := by omega
  have Hf : PartIs z 30 2 (z / 1073741824) := fun w => by have := rpart30_2 z w h0 h1; rw [e4] at this; exact this
  have Hu := Lib.hid (show PartIs z 29 1 _ from fun w => rpart29_1 z w h0 h1)
  have Hv := Lib.hid (show PartIs z 28 1 _ from fun w => rpart28_1 z w h0 h1)
  have Ha := Lib.hid (show PartIs z 24 4 _ from fun w => rpart24_4 z w h0 h1)
  have Hb := Lib.hid (show PartIs z 20 4 _ from fun w => rpart20_4 z w h0 h1)
  have Ho := Lib.hid (show PartIs z 16 4 _ from fun w => rpart16_4 z w h0 h1)
  have Hc := Lib.hid (show PartIs z 0 4 _ from fun w => rpart0_4 z w h0 h1)
  have Hn := Lib.hid (show PartIs z 0 16 _ from fun w => rpart0_16 z w h0 h1)
  have Hg := Lib.hid (show GetIs z 0 20 _ from fun w => rget0_20 z w h0 h1)
  have Hg4 := Lib.hid (show GetIs z 0 24 _ from fun w => rget0_24 z w h0 h1)
  have He : Hid (ExtIs (z % 1048576) 20 (As.ext 1048576 z)) := Lib.hid fun w => by have := rext20_any (z % 1048576) w (by omega) (by omega); rw [As.ext_mod z _ (by decide)] at this; exact this
  have He4 : Hid (ExtIs (z % 16777216) 24 (As.ext 16777216 z)) := Lib.hid fun w => by have := rext24_any (z % 16777216) w (by omega) (by omega); rw [As.ext_mod z _ (by decide)] at this; exact this
  have du : (z / 536870912 % 2 == 1) = decide (z / 536870912 % 2 = 1) := rfl
  have dv : (z / 268435456 % 2 == 1) = decide (z / 268435456 % 2 = 1) := rfl
  rcases hf with hf | hf | hf | hf
  · replace Hf := Lib.hid Hf
    rw [hf] at Hf
    refine rdec_of z w h0 h1 ⟨0, decide (z / 536870912 % 2 = 1), decide (z / 268435456 % 2 = 1), z / 16777216 % 16, z / 1048576 % 16, z % 16, z / 65536 % 16, 0⟩ (by simp [As.raw, hf]) ?_ ?_ ?_
    · intro _ H; exact rdec0_a z _ _ _ _ _ _ _ _ w Hf Hu Hv du dv Ha Hb Ho Hc H
    · intro _ he H; exact rdec0_b z _ _ _ _ _ _ _ _ w Hf Hu Hv du dv Ha Hb Ho Hc _ (by simpa using he) (by simpa using he) H
    · intro _ _ H; exact rdec0_c z _ _ _ _ _ _ _ _ w Hf Hu Hv du dv Ha Hb Ho Hc H
  · replace Hf := Lib.hid Hf
    rw [hf] at Hf
    refine rdec_of z w h0 h1 ⟨1, decide (z / 536870912 % 2 = 1), decide (z / 268435456 % 2 = 1), z / 16777216 % 16, z / 1048576 % 16, 0, z / 65536 % 16, z % 65536⟩ (by simp [As.raw, hf]) ?_ ?_ ?_
    · intro _ H; exact rdec1_a z _ _ _ _ _ _ _ _ w Hf Hu Hv du dv Ha Hb Ho Hn H
    · intro _ he H; exact rdec1_b z _ _ _ _ _ _ _ _ w Hf Hu Hv du dv Ha Hb Ho Hn _ (by simpa using he) (by simpa using he) H
    · intro _ _ H; exact rdec1_c z _ _ _ _ _ _ _ _ w Hf Hu Hv du dv Ha Hb Ho Hn H
  · replace Hf := Lib.hid Hf
    rw [hf] at Hf
    refine rdec_of z w h0 h1 ⟨2, decide (z / 536870912 % 2 = 1), decide (z / 268435456 % 2 = 1), z / 16777216 % 16, z / 1048576 % 16, 0, 0, As.ext 1048576 z⟩ (by simp [As.raw, hf]) ?_ ?_ ?_
    · intro _ H; exact rdec2_a z _ _ _ _ _ _ _ w Hf Hu Hv du dv Ha Hb _ Hg He H
    · intro _ he H; exact rdec2_b z _ _ _ _ _ _ _ w Hf Hu Hv du dv Ha Hb _ Hg He _ (by simpa using he) (by simpa using he) H
    · intro _ _ H; exact rdec2_c z _ _ _ _ _ _ _ w Hf Hu Hv du dv Ha Hb _ Hg He H
  · replace Hf := Lib.hid Hf
    rw [hf] at Hf
    by_cases hu : z / 536870912 % 2 = 1
    · have hu1 : (z / 536870912 % 2 == 1) = true := by rw [hu]; rfl
      refine rdec_of z w h0 h1 ⟨3, true, decide (z / 268435456 % 2 = 1), z / 16777216 % 16, 0, 0, 0, As.ext 16777216 z⟩ (by simp [As.raw, hf, hu]) ?_ ?_ ?_
      · intro _ H; exact rdec3t_a z _ _ _ _ _ w Hf Hu Hv hu1 dv Ha _ Hg4 He4 H
      · intro _ he H; exact rdec3t_b z _ _ _ _ _ w Hf Hu Hv hu1 dv Ha _ Hg4 He4 _ (by simpa using he) (by simpa using he) H
      · intro _ _ H; exact rdec3t_c z _ _ _ _ _ w Hf Hu Hv hu1 dv Ha _ Hg4 He4 H
    · have hu0 : (z / 536870912 % 2 == 1) = false := by rw [beq_eq_false_iff_ne]; exact hu
      refine rdec_of z w h0 h1 ⟨3, false, decide (z / 268435456 % 2 = 1), z / 16777216 % 16, 0, z % 16, 0, 0⟩ (by simp [As.raw, hf, hu]) ?_ ?_ ?_
      · intro _ H; exact rdec3f_a z _ _ _ _ _ w Hf Hu Hv hu0 dv Ha Hc H
      · intro _ he H; exact rdec3f_b z _ _ _ _ _ w Hf Hu Hv hu0 dv Ha Hc _ (by simpa using he) (by simpa using he) H
      · intro _ _ H; exact rdec3f_c z _ _ _ _ _ w Hf Hu Hv hu0 dv Ha Hc H
end Go.Proofs.YtcckbmmjklahfaaDoor
