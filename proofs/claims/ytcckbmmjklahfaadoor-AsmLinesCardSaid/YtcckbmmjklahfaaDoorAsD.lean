/- The walk of the program's risc.Decode. Conditions: the word is one. -/
import Derived.Test.YtcckbmmjklahfaaDoorAsC
namespace Go.Proofs.YtcckbmmjklahfaaDoor
set_option linter.all false
open Go.RowKit
namespace As
theorem and1 (z : Int) (h0 : 0 ≤ z) (h1 : z < 4294967296) : bits .and .u32 z 1 = z % 2 := by
  have := u32_and z 1 h0 h1 (by decide) (by decide)
  rw [show (1 : Int).toNat = 2 ^ 1 - 1 from rfl, Nat.and_two_pow_sub_one_eq_mod] at this
  omega
def zero : Ins := ⟨0, false, false, 0, 0, 0, 0, 0⟩
/-- what Decode tells: the instruction, and an error -/
def decD (z : Int) : Ins × Int := match dec z with | some x => (x, 0) | none => (zero, 20)
theorem decD_yes {z : Int} {x : Ins} (hx : raw z = x) (hg : Good x) (he : enc x = z) : decD z = (x, 0) := by
  unfold decD dec
  rw [hx, if_pos ⟨hg, he⟩]
theorem decD_no {z : Int} {x : Ins} (hx : raw z = x) (h : ¬ (Good x ∧ enc x = z)) : decD z = (zero, 20) := by
  unfold decD dec
  rw [hx, if_neg h]
end As
set_option maxRecDepth 100000 in
set_option maxHeartbeats 1600000 in
theorem pdec0_a (z U V a b c op : Int) (u : Bool) (v : Bool) (w : World) (h0 : 0 ≤ z) (h1 : z < 4294967296) (hf : z / 1073741824 = 0) (hU : bits .and .u32 (z / 536870912) 1 = U) (hV : bits .and .u32 (z / 268435456) 1 = V) (hu : (U == 1) = u) (hv : (V == 1) = v)
    (ha : z / 16777216 % 16 = a) (hb : z / 1048576 % 16 = b) (ho : z / 65536 % 16 = op) (hc : bits .and .u32 z 15 = c) (c0 : 0 ≤ c) (c1 : c < 16) (H : Hid (∀ w, Calls Tryd.prog 30 #[.agg #[.int .i64 0, .bool u, .bool v, .int .i64 a, .int .i64 b, .int .i64 c, .int .i64 op, .int .i64 0]] w fun e w' => e = .returned (.tuple #[.int .u32 0, .int .i64 20]) ∧ ∃ g, w' = more w g)) :
    Calls Tryd.prog 17 #[.int .u32 z] w fun e w' => e = .returned (.tuple #[.agg #[.int .i64 0, .bool false, .bool false, .int .i64 0, .int .i64 0, .int .i64 0, .int .i64 0, .int .i64 0], .int .i64 20]) ∧ ∃ g, w' = more w g := by
  go_enter Tryd.func17, Tryd.ntmps17
  go_wp2_with (first | (go_at_call 28; first | ((with_reducible refine (get24_any _ _ h0 h1).mono ?_); rintro e w2 ⟨rfl, g, rfl⟩) | ((with_reducible refine (get20_any _ _ h0 h1).mono ?_); rintro e w2 ⟨rfl, g, rfl⟩) | ((with_reducible refine (get16_any _ _ h0 h1).mono ?_); rintro e w2 ⟨rfl, g, rfl⟩)) | (go_at_call 29; first | ((with_reducible refine (ext20_any _ _ h0 h1).mono ?_); rintro e w2 ⟨rfl, g, rfl⟩) | ((with_reducible refine (ext24_any _ _ h0 h1).mono ?_); rintro e w2 ⟨rfl, g, rfl⟩)) | (go_at_call 30; (with_reducible refine (H.out _).mono ?_); rintro e w2 ⟨rfl, g, rfl⟩))
  go_returns
  exact ⟨rfl, more_of_below (by repeat' (first | (with_reducible exact Below.refl _ _) | (with_reducible assumption) | (with_reducible refine below_more ?_ ?_ _) | (with_reducible refine below_drewN ?_ _) | (with_reducible refine Below.drew ?_) | (with_reducible refine Below.alloc ?_ ?_ _) | (with_reducible refine Below.setCell ?_ ?_ _) | go_size | (simp [more_size]; done) | (simp [more_size]; omega)))⟩
set_option maxRecDepth 100000 in
set_option maxHeartbeats 1600000 in
theorem pdec0_b (z U V a b c op : Int) (u : Bool) (v : Bool) (w : World) (h0 : 0 ≤ z) (h1 : z < 4294967296) (hf : z / 1073741824 = 0) (hU : bits .and .u32 (z / 536870912) 1 = U) (hV : bits .and .u32 (z / 268435456) 1 = V) (hu : (U == 1) = u) (hv : (V == 1) = v)
    (ha : z / 16777216 % 16 = a) (hb : z / 1048576 % 16 = b) (ho : z / 65536 % 16 = op) (hc : bits .and .u32 z 15 = c) (c0 : 0 ≤ c) (c1 : c < 16) (E : Int) (hE : (E == z) = false) (hE2 : (E != z) = true) (H : Hid (∀ w, Calls Tryd.prog 30 #[.agg #[.int .i64 0, .bool u, .bool v, .int .i64 a, .int .i64 b, .int .i64 c, .int .i64 op, .int .i64 0]] w fun e w' => e = .returned (.tuple #[.int .u32 E, .int .i64 0]) ∧ ∃ g, w' = more w g)) :
    Calls Tryd.prog 17 #[.int .u32 z] w fun e w' => e = .returned (.tuple #[.agg #[.int .i64 0, .bool false, .bool false, .int .i64 0, .int .i64 0, .int .i64 0, .int .i64 0, .int .i64 0], .int .i64 20]) ∧ ∃ g, w' = more w g := by
  go_enter Tryd.func17, Tryd.ntmps17
  go_wp2_with (first | (go_at_call 28; first | ((with_reducible refine (get24_any _ _ h0 h1).mono ?_); rintro e w2 ⟨rfl, g, rfl⟩) | ((with_reducible refine (get20_any _ _ h0 h1).mono ?_); rintro e w2 ⟨rfl, g, rfl⟩) | ((with_reducible refine (get16_any _ _ h0 h1).mono ?_); rintro e w2 ⟨rfl, g, rfl⟩)) | (go_at_call 29; first | ((with_reducible refine (ext20_any _ _ h0 h1).mono ?_); rintro e w2 ⟨rfl, g, rfl⟩) | ((with_reducible refine (ext24_any _ _ h0 h1).mono ?_); rintro e w2 ⟨rfl, g, rfl⟩)) | (go_at_call 30; (with_reducible refine (H.out _).mono ?_); rintro e w2 ⟨rfl, g, rfl⟩))
  go_returns
  exact ⟨rfl, more_of_below (by repeat' (first | (with_reducible exact Below.refl _ _) | (with_reducible assumption) | (with_reducible refine below_more ?_ ?_ _) | (with_reducible refine below_drewN ?_ _) | (with_reducible refine Below.drew ?_) | (with_reducible refine Below.alloc ?_ ?_ _) | (with_reducible refine Below.setCell ?_ ?_ _) | go_size | (simp [more_size]; done) | (simp [more_size]; omega)))⟩
set_option maxRecDepth 100000 in
set_option maxHeartbeats 1600000 in
theorem pdec0_c (z U V a b c op : Int) (u : Bool) (v : Bool) (w : World) (h0 : 0 ≤ z) (h1 : z < 4294967296) (hf : z / 1073741824 = 0) (hU : bits .and .u32 (z / 536870912) 1 = U) (hV : bits .and .u32 (z / 268435456) 1 = V) (hu : (U == 1) = u) (hv : (V == 1) = v)
    (ha : z / 16777216 % 16 = a) (hb : z / 1048576 % 16 = b) (ho : z / 65536 % 16 = op) (hc : bits .and .u32 z 15 = c) (c0 : 0 ≤ c) (c1 : c < 16) (H : Hid (∀ w, Calls Tryd.prog 30 #[.agg #[.int .i64 0, .bool u, .bool v, .int .i64 a, .int .i64 b, .int .i64 c, .int .i64 op, .int .i64 0]] w fun e w' => e = .returned (.tuple #[.int .u32 z, .int .i64 0]) ∧ ∃ g, w' = more w g)) :
    Calls Tryd.prog 17 #[.int .u32 z] w fun e w' => e = .returned (.tuple #[.agg #[.int .i64 0, .bool u, .bool v, .int .i64 a, .int .i64 b, .int .i64 c, .int .i64 op, .int .i64 0], .int .i64 0]) ∧ ∃ g, w' = more w g := by
  go_enter Tryd.func17, Tryd.ntmps17
  go_wp2_with (first | (go_at_call 28; first | ((with_reducible refine (get24_any _ _ h0 h1).mono ?_); rintro e w2 ⟨rfl, g, rfl⟩) | ((with_reducible refine (get20_any _ _ h0 h1).mono ?_); rintro e w2 ⟨rfl, g, rfl⟩) | ((with_reducible refine (get16_any _ _ h0 h1).mono ?_); rintro e w2 ⟨rfl, g, rfl⟩)) | (go_at_call 29; first | ((with_reducible refine (ext20_any _ _ h0 h1).mono ?_); rintro e w2 ⟨rfl, g, rfl⟩) | ((with_reducible refine (ext24_any _ _ h0 h1).mono ?_); rintro e w2 ⟨rfl, g, rfl⟩)) | (go_at_call 30; (with_reducible refine (H.out _).mono ?_); rintro e w2 ⟨rfl, g, rfl⟩))
  go_returns
  exact ⟨rfl, more_of_below (by repeat' (first | (with_reducible exact Below.refl _ _) | (with_reducible assumption) | (with_reducible refine below_more ?_ ?_ _) | (with_reducible refine below_drewN ?_ _) | (with_reducible refine Below.drew ?_) | (with_reducible refine Below.alloc ?_ ?_ _) | (with_reducible refine Below.setCell ?_ ?_ _) | go_size | (simp [more_size]; done) | (simp [more_size]; omega)))⟩
set_option maxRecDepth 100000 in
set_option maxHeartbeats 1600000 in
theorem pdec1_a (z U V a b op n : Int) (u : Bool) (v : Bool) (w : World) (h0 : 0 ≤ z) (h1 : z < 4294967296) (hf : z / 1073741824 = 1) (hU : bits .and .u32 (z / 536870912) 1 = U) (hV : bits .and .u32 (z / 268435456) 1 = V) (hu : (U == 1) = u) (hv : (V == 1) = v)
    (ha : z / 16777216 % 16 = a) (hb : z / 1048576 % 16 = b) (ho : z / 65536 % 16 = op) (hc : IntKind.u16.wrap z = n) (c0 : 0 ≤ n) (c1 : n < 65536) (H : Hid (∀ w, Calls Tryd.prog 30 #[.agg #[.int .i64 1, .bool u, .bool v, .int .i64 a, .int .i64 b, .int .i64 0, .int .i64 op, .int .i64 n]] w fun e w' => e = .returned (.tuple #[.int .u32 0, .int .i64 20]) ∧ ∃ g, w' = more w g)) :
    Calls Tryd.prog 17 #[.int .u32 z] w fun e w' => e = .returned (.tuple #[.agg #[.int .i64 0, .bool false, .bool false, .int .i64 0, .int .i64 0, .int .i64 0, .int .i64 0, .int .i64 0], .int .i64 20]) ∧ ∃ g, w' = more w g := by
  go_enter Tryd.func17, Tryd.ntmps17
  go_wp2_with (first | (go_at_call 28; first | ((with_reducible refine (get24_any _ _ h0 h1).mono ?_); rintro e w2 ⟨rfl, g, rfl⟩) | ((with_reducible refine (get20_any _ _ h0 h1).mono ?_); rintro e w2 ⟨rfl, g, rfl⟩) | ((with_reducible refine (get16_any _ _ h0 h1).mono ?_); rintro e w2 ⟨rfl, g, rfl⟩)) | (go_at_call 29; first | ((with_reducible refine (ext20_any _ _ h0 h1).mono ?_); rintro e w2 ⟨rfl, g, rfl⟩) | ((with_reducible refine (ext24_any _ _ h0 h1).mono ?_); rintro e w2 ⟨rfl, g, rfl⟩)) | (go_at_call 30; (with_reducible refine (H.out _).mono ?_); rintro e w2 ⟨rfl, g, rfl⟩))
  go_returns
  exact ⟨rfl, more_of_below (by repeat' (first | (with_reducible exact Below.refl _ _) | (with_reducible assumption) | (with_reducible refine below_more ?_ ?_ _) | (with_reducible refine below_drewN ?_ _) | (with_reducible refine Below.drew ?_) | (with_reducible refine Below.alloc ?_ ?_ _) | (with_reducible refine Below.setCell ?_ ?_ _) | go_size | (simp [more_size]; done) | (simp [more_size]; omega)))⟩
set_option maxRecDepth 100000 in
set_option maxHeartbeats 1600000 in
theorem pdec1_b (z U V a b op n : Int) (u : Bool) (v : Bool) (w : World) (h0 : 0 ≤ z) (h1 : z < 4294967296) (hf : z / 1073741824 = 1) (hU : bits .and .u32 (z / 536870912) 1 = U) (hV : bits .and .u32 (z / 268435456) 1 = V) (hu : (U == 1) = u) (hv : (V == 1) = v)
    (ha : z / 16777216 % 16 = a) (hb : z / 1048576 % 16 = b) (ho : z / 65536 % 16 = op) (hc : IntKind.u16.wrap z = n) (c0 : 0 ≤ n) (c1 : n < 65536) (E : Int) (hE : (E == z) = false) (hE2 : (E != z) = true) (H : Hid (∀ w, Calls Tryd.prog 30 #[.agg #[.int .i64 1, .bool u, .bool v, .int .i64 a, .int .i64 b, .int .i64 0, .int .i64 op, .int .i64 n]] w fun e w' => e = .returned (.tuple #[.int .u32 E, .int .i64 0]) ∧ ∃ g, w' = more w g)) :
    Calls Tryd.prog 17 #[.int .u32 z] w fun e w' => e = .returned (.tuple #[.agg #[.int .i64 0, .bool false, .bool false, .int .i64 0, .int .i64 0, .int .i64 0, .int .i64 0, .int .i64 0], .int .i64 20]) ∧ ∃ g, w' = more w g := by
  go_enter Tryd.func17, Tryd.ntmps17
  go_wp2_with (first | (go_at_call 28; first | ((with_reducible refine (get24_any _ _ h0 h1).mono ?_); rintro e w2 ⟨rfl, g, rfl⟩) | ((with_reducible refine (get20_any _ _ h0 h1).mono ?_); rintro e w2 ⟨rfl, g, rfl⟩) | ((with_reducible refine (get16_any _ _ h0 h1).mono ?_); rintro e w2 ⟨rfl, g, rfl⟩)) | (go_at_call 29; first | ((with_reducible refine (ext20_any _ _ h0 h1).mono ?_); rintro e w2 ⟨rfl, g, rfl⟩) | ((with_reducible refine (ext24_any _ _ h0 h1).mono ?_); rintro e w2 ⟨rfl, g, rfl⟩)) | (go_at_call 30; (with_reducible refine (H.out _).mono ?_); rintro e w2 ⟨rfl, g, rfl⟩))
  go_returns
  exact ⟨rfl, more_of_below (by repeat' (first | (with_reducible exact Below.refl _ _) | (with_reducible assumption) | (with_reducible refine below_more ?_ ?_ _) | (with_reducible refine below_drewN ?_ _) | (with_reducible refine Below.drew ?_) | (with_reducible refine Below.alloc ?_ ?_ _) | (with_reducible refine Below.setCell ?_ ?_ _) | go_size | (simp [more_size]; done) | (simp [more_size]; omega)))⟩
set_option maxRecDepth 100000 in
set_option maxHeartbeats 1600000 in
theorem pdec1_c (z U V a b op n : Int) (u : Bool) (v : Bool) (w : World) (h0 : 0 ≤ z) (h1 : z < 4294967296) (hf : z / 1073741824 = 1) (hU : bits .and .u32 (z / 536870912) 1 = U) (hV : bits .and .u32 (z / 268435456) 1 = V) (hu : (U == 1) = u) (hv : (V == 1) = v)
    (ha : z / 16777216 % 16 = a) (hb : z / 1048576 % 16 = b) (ho : z / 65536 % 16 = op) (hc : IntKind.u16.wrap z = n) (c0 : 0 ≤ n) (c1 : n < 65536) (H : Hid (∀ w, Calls Tryd.prog 30 #[.agg #[.int .i64 1, .bool u, .bool v, .int .i64 a, .int .i64 b, .int .i64 0, .int .i64 op, .int .i64 n]] w fun e w' => e = .returned (.tuple #[.int .u32 z, .int .i64 0]) ∧ ∃ g, w' = more w g)) :
    Calls Tryd.prog 17 #[.int .u32 z] w fun e w' => e = .returned (.tuple #[.agg #[.int .i64 1, .bool u, .bool v, .int .i64 a, .int .i64 b, .int .i64 0, .int .i64 op, .int .i64 n], .int .i64 0]) ∧ ∃ g, w' = more w g := by
  go_enter Tryd.func17, Tryd.ntmps17
  go_wp2_with (first | (go_at_call 28; first | ((with_reducible refine (get24_any _ _ h0 h1).mono ?_); rintro e w2 ⟨rfl, g, rfl⟩) | ((with_reducible refine (get20_any _ _ h0 h1).mono ?_); rintro e w2 ⟨rfl, g, rfl⟩) | ((with_reducible refine (get16_any _ _ h0 h1).mono ?_); rintro e w2 ⟨rfl, g, rfl⟩)) | (go_at_call 29; first | ((with_reducible refine (ext20_any _ _ h0 h1).mono ?_); rintro e w2 ⟨rfl, g, rfl⟩) | ((with_reducible refine (ext24_any _ _ h0 h1).mono ?_); rintro e w2 ⟨rfl, g, rfl⟩)) | (go_at_call 30; (with_reducible refine (H.out _).mono ?_); rintro e w2 ⟨rfl, g, rfl⟩))
  go_returns
  exact ⟨rfl, more_of_below (by repeat' (first | (with_reducible exact Below.refl _ _) | (with_reducible assumption) | (with_reducible refine below_more ?_ ?_ _) | (with_reducible refine below_drewN ?_ _) | (with_reducible refine Below.drew ?_) | (with_reducible refine Below.alloc ?_ ?_ _) | (with_reducible refine Below.setCell ?_ ?_ _) | go_size | (simp [more_size]; done) | (simp [more_size]; omega)))⟩
set_option maxRecDepth 100000 in
set_option maxHeartbeats 1600000 in
theorem pdec2_a (z U V a b n : Int) (u : Bool) (v : Bool) (w : World) (h0 : 0 ≤ z) (h1 : z < 4294967296) (hf : z / 1073741824 = 2) (hU : bits .and .u32 (z / 536870912) 1 = U) (hV : bits .and .u32 (z / 268435456) 1 = V) (hu : (U == 1) = u) (hv : (V == 1) = v)
    (ha : z / 16777216 % 16 = a) (hb : z / 1048576 % 16 = b) (hc : As.ext 1048576 z = n) (H : Hid (∀ w, Calls Tryd.prog 30 #[.agg #[.int .i64 2, .bool u, .bool v, .int .i64 a, .int .i64 b, .int .i64 0, .int .i64 0, .int .i64 n]] w fun e w' => e = .returned (.tuple #[.int .u32 0, .int .i64 20]) ∧ ∃ g, w' = more w g)) :
    Calls Tryd.prog 17 #[.int .u32 z] w fun e w' => e = .returned (.tuple #[.agg #[.int .i64 0, .bool false, .bool false, .int .i64 0, .int .i64 0, .int .i64 0, .int .i64 0, .int .i64 0], .int .i64 20]) ∧ ∃ g, w' = more w g := by
  go_enter Tryd.func17, Tryd.ntmps17
  go_wp2_with (first | (go_at_call 28; first | ((with_reducible refine (get24_any _ _ h0 h1).mono ?_); rintro e w2 ⟨rfl, g, rfl⟩) | ((with_reducible refine (get20_any _ _ h0 h1).mono ?_); rintro e w2 ⟨rfl, g, rfl⟩) | ((with_reducible refine (get16_any _ _ h0 h1).mono ?_); rintro e w2 ⟨rfl, g, rfl⟩)) | (go_at_call 29; first | ((with_reducible refine (ext20_any _ _ h0 h1).mono ?_); rintro e w2 ⟨rfl, g, rfl⟩) | ((with_reducible refine (ext24_any _ _ h0 h1).mono ?_); rintro e w2 ⟨rfl, g, rfl⟩)) | (go_at_call 30; (with_reducible refine (H.out _).mono ?_); rintro e w2 ⟨rfl, g, rfl⟩))
  go_returns
  exact ⟨rfl, more_of_below (by repeat' (first | (with_reducible exact Below.refl _ _) | (with_reducible assumption) | (with_reducible refine below_more ?_ ?_ _) | (with_reducible refine below_drewN ?_ _) | (with_reducible refine Below.drew ?_) | (with_reducible refine Below.alloc ?_ ?_ _) | (with_reducible refine Below.setCell ?_ ?_ _) | go_size | (simp [more_size]; done) | (simp [more_size]; omega)))⟩
set_option maxRecDepth 100000 in
set_option maxHeartbeats 1600000 in
theorem pdec2_b (z U V a b n : Int) (u : Bool) (v : Bool) (w : World) (h0 : 0 ≤ z) (h1 : z < 4294967296) (hf : z / 1073741824 = 2) (hU : bits .and .u32 (z / 536870912) 1 = U) (hV : bits .and .u32 (z / 268435456) 1 = V) (hu : (U == 1) = u) (hv : (V == 1) = v)
    (ha : z / 16777216 % 16 = a) (hb : z / 1048576 % 16 = b) (hc : As.ext 1048576 z = n) (E : Int) (hE : (E == z) = false) (hE2 : (E != z) = true) (H : Hid (∀ w, Calls Tryd.prog 30 #[.agg #[.int .i64 2, .bool u, .bool v, .int .i64 a, .int .i64 b, .int .i64 0, .int .i64 0, .int .i64 n]] w fun e w' => e = .returned (.tuple #[.int .u32 E, .int .i64 0]) ∧ ∃ g, w' = more w g)) :
    Calls Tryd.prog 17 #[.int .u32 z] w fun e w' => e = .returned (.tuple #[.agg #[.int .i64 0, .bool false, .bool false, .int .i64 0, .int .i64 0, .int .i64 0, .int .i64 0, .int .i64 0], .int .i64 20]) ∧ ∃ g, w' = more w g := by
  go_enter Tryd.func17, Tryd.ntmps17
  go_wp2_with (first | (go_at_call 28; first | ((with_reducible refine (get24_any _ _ h0 h1).mono ?_); rintro e w2 ⟨rfl, g, rfl⟩) | ((with_reducible refine (get20_any _ _ h0 h1).mono ?_); rintro e w2 ⟨rfl, g, rfl⟩) | ((with_reducible refine (get16_any _ _ h0 h1).mono ?_); rintro e w2 ⟨rfl, g, rfl⟩)) | (go_at_call 29; first | ((with_reducible refine (ext20_any _ _ h0 h1).mono ?_); rintro e w2 ⟨rfl, g, rfl⟩) | ((with_reducible refine (ext24_any _ _ h0 h1).mono ?_); rintro e w2 ⟨rfl, g, rfl⟩)) | (go_at_call 30; (with_reducible refine (H.out _).mono ?_); rintro e w2 ⟨rfl, g, rfl⟩))
  go_returns
  exact ⟨rfl, more_of_below (by repeat' (first | (with_reducible exact Below.refl _ _) | (with_reducible assumption) | (with_reducible refine below_more ?_ ?_ _) | (with_reducible refine below_drewN ?_ _) | (with_reducible refine Below.drew ?_) | (with_reducible refine Below.alloc ?_ ?_ _) | (with_reducible refine Below.setCell ?_ ?_ _) | go_size | (simp [more_size]; done) | (simp [more_size]; omega)))⟩
set_option maxRecDepth 100000 in
set_option maxHeartbeats 1600000 in
theorem pdec2_c (z U V a b n : Int) (u : Bool) (v : Bool) (w : World) (h0 : 0 ≤ z) (h1 : z < 4294967296) (hf : z / 1073741824 = 2) (hU : bits .and .u32 (z / 536870912) 1 = U) (hV : bits .and .u32 (z / 268435456) 1 = V) (hu : (U == 1) = u) (hv : (V == 1) = v)
    (ha : z / 16777216 % 16 = a) (hb : z / 1048576 % 16 = b) (hc : As.ext 1048576 z = n) (H : Hid (∀ w, Calls Tryd.prog 30 #[.agg #[.int .i64 2, .bool u, .bool v, .int .i64 a, .int .i64 b, .int .i64 0, .int .i64 0, .int .i64 n]] w fun e w' => e = .returned (.tuple #[.int .u32 z, .int .i64 0]) ∧ ∃ g, w' = more w g)) :
    Calls Tryd.prog 17 #[.int .u32 z] w fun e w' => e = .returned (.tuple #[.agg #[.int .i64 2, .bool u, .bool v, .int .i64 a, .int .i64 b, .int .i64 0, .int .i64 0, .int .i64 n], .int .i64 0]) ∧ ∃ g, w' = more w g := by
  go_enter Tryd.func17, Tryd.ntmps17
  go_wp2_with (first | (go_at_call 28; first | ((with_reducible refine (get24_any _ _ h0 h1).mono ?_); rintro e w2 ⟨rfl, g, rfl⟩) | ((with_reducible refine (get20_any _ _ h0 h1).mono ?_); rintro e w2 ⟨rfl, g, rfl⟩) | ((with_reducible refine (get16_any _ _ h0 h1).mono ?_); rintro e w2 ⟨rfl, g, rfl⟩)) | (go_at_call 29; first | ((with_reducible refine (ext20_any _ _ h0 h1).mono ?_); rintro e w2 ⟨rfl, g, rfl⟩) | ((with_reducible refine (ext24_any _ _ h0 h1).mono ?_); rintro e w2 ⟨rfl, g, rfl⟩)) | (go_at_call 30; (with_reducible refine (H.out _).mono ?_); rintro e w2 ⟨rfl, g, rfl⟩))
  go_returns
  exact ⟨rfl, more_of_below (by repeat' (first | (with_reducible exact Below.refl _ _) | (with_reducible assumption) | (with_reducible refine below_more ?_ ?_ _) | (with_reducible refine below_drewN ?_ _) | (with_reducible refine Below.drew ?_) | (with_reducible refine Below.alloc ?_ ?_ _) | (with_reducible refine Below.setCell ?_ ?_ _) | go_size | (simp [more_size]; done) | (simp [more_size]; omega)))⟩
set_option maxRecDepth 100000 in
set_option maxHeartbeats 1600000 in
theorem pdec3t_a (z U V a n : Int) (v : Bool) (w : World) (h0 : 0 ≤ z) (h1 : z < 4294967296) (hf : z / 1073741824 = 3) (hU : bits .and .u32 (z / 536870912) 1 = U) (hV : bits .and .u32 (z / 268435456) 1 = V) (hu : (U == 1) = true) (hv : (V == 1) = v)
    (ha : z / 16777216 % 16 = a) (hc : As.ext 16777216 z = n) (H : Hid (∀ w, Calls Tryd.prog 30 #[.agg #[.int .i64 3, .bool true, .bool v, .int .i64 a, .int .i64 0, .int .i64 0, .int .i64 0, .int .i64 n]] w fun e w' => e = .returned (.tuple #[.int .u32 0, .int .i64 20]) ∧ ∃ g, w' = more w g)) :
    Calls Tryd.prog 17 #[.int .u32 z] w fun e w' => e = .returned (.tuple #[.agg #[.int .i64 0, .bool false, .bool false, .int .i64 0, .int .i64 0, .int .i64 0, .int .i64 0, .int .i64 0], .int .i64 20]) ∧ ∃ g, w' = more w g := by
  go_enter Tryd.func17, Tryd.ntmps17
  go_wp2_with (first | (go_at_call 28; first | ((with_reducible refine (get24_any _ _ h0 h1).mono ?_); rintro e w2 ⟨rfl, g, rfl⟩) | ((with_reducible refine (get20_any _ _ h0 h1).mono ?_); rintro e w2 ⟨rfl, g, rfl⟩) | ((with_reducible refine (get16_any _ _ h0 h1).mono ?_); rintro e w2 ⟨rfl, g, rfl⟩)) | (go_at_call 29; first | ((with_reducible refine (ext20_any _ _ h0 h1).mono ?_); rintro e w2 ⟨rfl, g, rfl⟩) | ((with_reducible refine (ext24_any _ _ h0 h1).mono ?_); rintro e w2 ⟨rfl, g, rfl⟩)) | (go_at_call 30; (with_reducible refine (H.out _).mono ?_); rintro e w2 ⟨rfl, g, rfl⟩))
  go_returns
  exact ⟨rfl, more_of_below (by repeat' (first | (with_reducible exact Below.refl _ _) | (with_reducible assumption) | (with_reducible refine below_more ?_ ?_ _) | (with_reducible refine below_drewN ?_ _) | (with_reducible refine Below.drew ?_) | (with_reducible refine Below.alloc ?_ ?_ _) | (with_reducible refine Below.setCell ?_ ?_ _) | go_size | (simp [more_size]; done) | (simp [more_size]; omega)))⟩
set_option maxRecDepth 100000 in
set_option maxHeartbeats 1600000 in
theorem pdec3t_b (z U V a n : Int) (v : Bool) (w : World) (h0 : 0 ≤ z) (h1 : z < 4294967296) (hf : z / 1073741824 = 3) (hU : bits .and .u32 (z / 536870912) 1 = U) (hV : bits .and .u32 (z / 268435456) 1 = V) (hu : (U == 1) = true) (hv : (V == 1) = v)
    (ha : z / 16777216 % 16 = a) (hc : As.ext 16777216 z = n) (E : Int) (hE : (E == z) = false) (hE2 : (E != z) = true) (H : Hid (∀ w, Calls Tryd.prog 30 #[.agg #[.int .i64 3, .bool true, .bool v, .int .i64 a, .int .i64 0, .int .i64 0, .int .i64 0, .int .i64 n]] w fun e w' => e = .returned (.tuple #[.int .u32 E, .int .i64 0]) ∧ ∃ g, w' = more w g)) :
    Calls Tryd.prog 17 #[.int .u32 z] w fun e w' => e = .returned (.tuple #[.agg #[.int .i64 0, .bool false, .bool false, .int .i64 0, .int .i64 0, .int .i64 0, .int .i64 0, .int .i64 0], .int .i64 20]) ∧ ∃ g, w' = more w g := by
  go_enter Tryd.func17, Tryd.ntmps17
  go_wp2_with (first | (go_at_call 28; first | ((with_reducible refine (get24_any _ _ h0 h1).mono ?_); rintro e w2 ⟨rfl, g, rfl⟩) | ((with_reducible refine (get20_any _ _ h0 h1).mono ?_); rintro e w2 ⟨rfl, g, rfl⟩) | ((with_reducible refine (get16_any _ _ h0 h1).mono ?_); rintro e w2 ⟨rfl, g, rfl⟩)) | (go_at_call 29; first | ((with_reducible refine (ext20_any _ _ h0 h1).mono ?_); rintro e w2 ⟨rfl, g, rfl⟩) | ((with_reducible refine (ext24_any _ _ h0 h1).mono ?_); rintro e w2 ⟨rfl, g, rfl⟩)) | (go_at_call 30; (with_reducible refine (H.out _).mono ?_); rintro e w2 ⟨rfl, g, rfl⟩))
  go_returns
  exact ⟨rfl, more_of_below (by repeat' (first | (with_reducible exact Below.refl _ _) | (with_reducible assumption) | (with_reducible refine below_more ?_ ?_ _) | (with_reducible refine below_drewN ?_ _) | (with_reducible refine Below.drew ?_) | (with_reducible refine Below.alloc ?_ ?_ _) | (with_reducible refine Below.setCell ?_ ?_ _) | go_size | (simp [more_size]; done) | (simp [more_size]; omega)))⟩
set_option maxRecDepth 100000 in
set_option maxHeartbeats 1600000 in
theorem pdec3t_c (z U V a n : Int) (v : Bool) (w : World) (h0 : 0 ≤ z) (h1 : z < 4294967296) (hf : z / 1073741824 = 3) (hU : bits .and .u32 (z / 536870912) 1 = U) (hV : bits .and .u32 (z / 268435456) 1 = V) (hu : (U == 1) = true) (hv : (V == 1) = v)
    (ha : z / 16777216 % 16 = a) (hc : As.ext 16777216 z = n) (H : Hid (∀ w, Calls Tryd.prog 30 #[.agg #[.int .i64 3, .bool true, .bool v, .int .i64 a, .int .i64 0, .int .i64 0, .int .i64 0, .int .i64 n]] w fun e w' => e = .returned (.tuple #[.int .u32 z, .int .i64 0]) ∧ ∃ g, w' = more w g)) :
    Calls Tryd.prog 17 #[.int .u32 z] w fun e w' => e = .returned (.tuple #[.agg #[.int .i64 3, .bool true, .bool v, .int .i64 a, .int .i64 0, .int .i64 0, .int .i64 0, .int .i64 n], .int .i64 0]) ∧ ∃ g, w' = more w g := by
  go_enter Tryd.func17, Tryd.ntmps17
  go_wp2_with (first | (go_at_call 28; first | ((with_reducible refine (get24_any _ _ h0 h1).mono ?_); rintro e w2 ⟨rfl, g, rfl⟩) | ((with_reducible refine (get20_any _ _ h0 h1).mono ?_); rintro e w2 ⟨rfl, g, rfl⟩) | ((with_reducible refine (get16_any _ _ h0 h1).mono ?_); rintro e w2 ⟨rfl, g, rfl⟩)) | (go_at_call 29; first | ((with_reducible refine (ext20_any _ _ h0 h1).mono ?_); rintro e w2 ⟨rfl, g, rfl⟩) | ((with_reducible refine (ext24_any _ _ h0 h1).mono ?_); rintro e w2 ⟨rfl, g, rfl⟩)) | (go_at_call 30; (with_reducible refine (H.out _).mono ?_); rintro e w2 ⟨rfl, g, rfl⟩))
  go_returns
  exact ⟨rfl, more_of_below (by repeat' (first | (with_reducible exact Below.refl _ _) | (with_reducible assumption) | (with_reducible refine below_more ?_ ?_ _) | (with_reducible refine below_drewN ?_ _) | (with_reducible refine Below.drew ?_) | (with_reducible refine Below.alloc ?_ ?_ _) | (with_reducible refine Below.setCell ?_ ?_ _) | go_size | (simp [more_size]; done) | (simp [more_size]; omega)))⟩
set_option maxRecDepth 100000 in
set_option maxHeartbeats 1600000 in
theorem pdec3f_a (z U V a c : Int) (v : Bool) (w : World) (h0 : 0 ≤ z) (h1 : z < 4294967296) (hf : z / 1073741824 = 3) (hU : bits .and .u32 (z / 536870912) 1 = U) (hV : bits .and .u32 (z / 268435456) 1 = V) (hu : (U == 1) = false) (hv : (V == 1) = v)
    (ha : z / 16777216 % 16 = a) (hc : bits .and .u32 z 15 = c) (c0 : 0 ≤ c) (c1 : c < 16) (H : Hid (∀ w, Calls Tryd.prog 30 #[.agg #[.int .i64 3, .bool false, .bool v, .int .i64 a, .int .i64 0, .int .i64 c, .int .i64 0, .int .i64 0]] w fun e w' => e = .returned (.tuple #[.int .u32 0, .int .i64 20]) ∧ ∃ g, w' = more w g)) :
    Calls Tryd.prog 17 #[.int .u32 z] w fun e w' => e = .returned (.tuple #[.agg #[.int .i64 0, .bool false, .bool false, .int .i64 0, .int .i64 0, .int .i64 0, .int .i64 0, .int .i64 0], .int .i64 20]) ∧ ∃ g, w' = more w g := by
  go_enter Tryd.func17, Tryd.ntmps17
  go_wp2_with (first | (go_at_call 28; first | ((with_reducible refine (get24_any _ _ h0 h1).mono ?_); rintro e w2 ⟨rfl, g, rfl⟩) | ((with_reducible refine (get20_any _ _ h0 h1).mono ?_); rintro e w2 ⟨rfl, g, rfl⟩) | ((with_reducible refine (get16_any _ _ h0 h1).mono ?_); rintro e w2 ⟨rfl, g, rfl⟩)) | (go_at_call 29; first | ((with_reducible refine (ext20_any _ _ h0 h1).mono ?_); rintro e w2 ⟨rfl, g, rfl⟩) | ((with_reducible refine (ext24_any _ _ h0 h1).mono ?_); rintro e w2 ⟨rfl, g, rfl⟩)) | (go_at_call 30; (with_reducible refine (H.out _).mono ?_); rintro e w2 ⟨rfl, g, rfl⟩))
  go_returns
  exact ⟨rfl, more_of_below (by repeat' (first | (with_reducible exact Below.refl _ _) | (with_reducible assumption) | (with_reducible refine below_more ?_ ?_ _) | (with_reducible refine below_drewN ?_ _) | (with_reducible refine Below.drew ?_) | (with_reducible refine Below.alloc ?_ ?_ _) | (with_reducible refine Below.setCell ?_ ?_ _) | go_size | (simp [more_size]; done) | (simp [more_size]; omega)))⟩
set_option maxRecDepth 100000 in
set_option maxHeartbeats 1600000 in
theorem pdec3f_b (z U V a c : Int) (v : Bool) (w : World) (h0 : 0 ≤ z) (h1 : z < 4294967296) (hf : z / 1073741824 = 3) (hU : bits .and .u32 (z / 536870912) 1 = U) (hV : bits .and .u32 (z / 268435456) 1 = V) (hu : (U == 1) = false) (hv : (V == 1) = v)
    (ha : z / 16777216 % 16 = a) (hc : bits .and .u32 z 15 = c) (c0 : 0 ≤ c) (c1 : c < 16) (E : Int) (hE : (E == z) = false) (hE2 : (E != z) = true) (H : Hid (∀ w, Calls Tryd.prog 30 #[.agg #[.int .i64 3, .bool false, .bool v, .int .i64 a, .int .i64 0, .int .i64 c, .int .i64 0, .int .i64 0]] w fun e w' => e = .returned (.tuple #[.int .u32 E, .int .i64 0]) ∧ ∃ g, w' = more w g)) :
    Calls Tryd.prog 17 #[.int .u32 z] w fun e w' => e = .returned (.tuple #[.agg #[.int .i64 0, .bool false, .bool false, .int .i64 0, .int .i64 0, .int .i64 0, .int .i64 0, .int .i64 0], .int .i64 20]) ∧ ∃ g, w' = more w g := by
  go_enter Tryd.func17, Tryd.ntmps17
  go_wp2_with (first | (go_at_call 28; first | ((with_reducible refine (get24_any _ _ h0 h1).mono ?_); rintro e w2 ⟨rfl, g, rfl⟩) | ((with_reducible refine (get20_any _ _ h0 h1).mono ?_); rintro e w2 ⟨rfl, g, rfl⟩) | ((with_reducible refine (get16_any _ _ h0 h1).mono ?_); rintro e w2 ⟨rfl, g, rfl⟩)) | (go_at_call 29; first | ((with_reducible refine (ext20_any _ _ h0 h1).mono ?_); rintro e w2 ⟨rfl, g, rfl⟩) | ((with_reducible refine (ext24_any _ _ h0 h1).mono ?_); rintro e w2 ⟨rfl, g, rfl⟩)) | (go_at_call 30; (with_reducible refine (H.out _).mono ?_); rintro e w2 ⟨rfl, g, rfl⟩))
  go_returns
  exact ⟨rfl, more_of_below (by repeat' (first | (with_reducible exact Below.refl _ _) | (with_reducible assumption) | (with_reducible refine below_more ?_ ?_ _) | (with_reducible refine below_drewN ?_ _) | (with_reducible refine Below.drew ?_) | (with_reducible refine Below.alloc ?_ ?_ _) | (with_reducible refine Below.setCell ?_ ?_ _) | go_size | (simp [more_size]; done) | (simp [more_size]; omega)))⟩
set_option maxRecDepth 100000 in
set_option maxHeartbeats 1600000 in
theorem pdec3f_c (z U V a c : Int) (v : Bool) (w : World) (h0 : 0 ≤ z) (h1 : z < 4294967296) (hf : z / 1073741824 = 3) (hU : bits .and .u32 (z / 536870912) 1 = U) (hV : bits .and .u32 (z / 268435456) 1 = V) (hu : (U == 1) = false) (hv : (V == 1) = v)
    (ha : z / 16777216 % 16 = a) (hc : bits .and .u32 z 15 = c) (c0 : 0 ≤ c) (c1 : c < 16) (H : Hid (∀ w, Calls Tryd.prog 30 #[.agg #[.int .i64 3, .bool false, .bool v, .int .i64 a, .int .i64 0, .int .i64 c, .int .i64 0, .int .i64 0]] w fun e w' => e = .returned (.tuple #[.int .u32 z, .int .i64 0]) ∧ ∃ g, w' = more w g)) :
    Calls Tryd.prog 17 #[.int .u32 z] w fun e w' => e = .returned (.tuple #[.agg #[.int .i64 3, .bool false, .bool v, .int .i64 a, .int .i64 0, .int .i64 c, .int .i64 0, .int .i64 0], .int .i64 0]) ∧ ∃ g, w' = more w g := by
  go_enter Tryd.func17, Tryd.ntmps17
  go_wp2_with (first | (go_at_call 28; first | ((with_reducible refine (get24_any _ _ h0 h1).mono ?_); rintro e w2 ⟨rfl, g, rfl⟩) | ((with_reducible refine (get20_any _ _ h0 h1).mono ?_); rintro e w2 ⟨rfl, g, rfl⟩) | ((with_reducible refine (get16_any _ _ h0 h1).mono ?_); rintro e w2 ⟨rfl, g, rfl⟩)) | (go_at_call 29; first | ((with_reducible refine (ext20_any _ _ h0 h1).mono ?_); rintro e w2 ⟨rfl, g, rfl⟩) | ((with_reducible refine (ext24_any _ _ h0 h1).mono ?_); rintro e w2 ⟨rfl, g, rfl⟩)) | (go_at_call 30; (with_reducible refine (H.out _).mono ?_); rintro e w2 ⟨rfl, g, rfl⟩))
  go_returns
  exact ⟨rfl, more_of_below (by repeat' (first | (with_reducible exact Below.refl _ _) | (with_reducible assumption) | (with_reducible refine below_more ?_ ?_ _) | (with_reducible refine below_drewN ?_ _) | (with_reducible refine Below.drew ?_) | (with_reducible refine Below.alloc ?_ ?_ _) | (with_reducible refine Below.setCell ?_ ?_ _) | go_size | (simp [more_size]; done) | (simp [more_size]; omega)))⟩
theorem pdec_of (z : Int) (w : World) (h0 : 0 ≤ z) (h1 : z < 4294967296) (x : As.Ins) (hx : As.raw z = x)
    (A : ¬ As.Good x → Hid (∀ w, Calls Tryd.prog 30 #[As.iv x] w fun e w' => e = .returned (.tuple #[.int .u32 0, .int .i64 20]) ∧ ∃ g, w' = more w g) → Calls Tryd.prog 17 #[.int .u32 z] w fun e w' => e = .returned (.tuple #[As.iv As.zero, .int .i64 20]) ∧ ∃ g, w' = more w g)
    (B : As.Good x → As.enc x ≠ z → Hid (∀ w, Calls Tryd.prog 30 #[As.iv x] w fun e w' => e = .returned (.tuple #[.int .u32 (As.enc x), .int .i64 0]) ∧ ∃ g, w' = more w g) → Calls Tryd.prog 17 #[.int .u32 z] w fun e w' => e = .returned (.tuple #[As.iv As.zero, .int .i64 20]) ∧ ∃ g, w' = more w g)
    (C : As.Good x → As.enc x = z → Hid (∀ w, Calls Tryd.prog 30 #[As.iv x] w fun e w' => e = .returned (.tuple #[.int .u32 z, .int .i64 0]) ∧ ∃ g, w' = more w g) → Calls Tryd.prog 17 #[.int .u32 z] w fun e w' => e = .returned (.tuple #[As.iv x, .int .i64 0]) ∧ ∃ g, w' = more w g) :
    Calls Tryd.prog 17 #[.int .u32 z] w fun e w' => e = .returned (.tuple #[As.iv (As.decD z).1, .int .i64 (As.decD z).2]) ∧ ∃ g, w' = more w g := by
  have hfx : 0 ≤ x.f ∧ x.f ≤ 3 := by
    subst hx
    have : (As.raw z).f = z / 1073741824 := by
      unfold As.raw
      simp only
      split
      · rfl
      · split
        · rfl
        · split
          · rfl
          · split <;> rfl
    omega
  by_cases hg : As.Good x
  · by_cases he : As.enc x = z
    · rw [As.decD_yes hx hg he]
      exact C hg he (Lib.hid fun w => by have := penc_yes hg w; rw [he] at this; exact this)
    · rw [As.decD_no hx (fun h => he h.2)]
      exact B hg he (Lib.hid fun w => penc_yes hg w)
  · rw [As.decD_no hx (fun h => hg h.1)]
    exact A hg (Lib.hid fun w => penc_no x.f x.u x.v x.a x.b x.c x.op x.n hfx hg w)
theorem pdec_any (z : Int) (w : World) (h0 : 0 ≤ z) (h1 : z < 4294967296) :
    Calls Tryd.prog 17 #[.int .u32 z] w fun e w' => e = .returned (.tuple #[As.iv (As.decD z).1, .int .i64 (As.decD z).2]) ∧ ∃ g, w' = more w g := by
  have eu := As.and1 (z / 536870912) (by omega) (by omega)
  have ev := As.and1 (z / 268435456) (by omega) (by omega)
  have ec := As.and15 z h0 h1
  have cc0 : 0 ≤ z % 16 := by omega
  have cc1 : z % 16 < 16 := by omega
  have nn0 : 0 ≤ z % 65536 := by omega
  have nn1 : z % 65536 < 65536 := by omega
  have ew : IntKind.u16.wrap z = z % 65536 := IntKind.wrap_u16 z
  have du : (z / 536870912 % 2 == 1) = decide (z / 536870912 % 2 = 1) := rfl
  have dv : (z / 268435456 % 2 == 1) = decide (z / 268435456 % 2 = 1) := rfl
  have hf : z / 1073741824 = 0 ∨ z / 1073741824 = 1 ∨ z / 1073741824 = 2 ∨ z / 1073741824 = 3 := by omega
  rcases hf with hf | hf | hf | hf
  · refine pdec_of z w h0 h1 ⟨0, decide (z / 536870912 % 2 = 1), decide (z / 268435456 % 2 = 1), z / 16777216 % 16, z / 1048576 % 16, z % 16, z / 65536 % 16, 0⟩ (by simp [As.raw, hf]) ?_ ?_ ?_
    · intro _ H; exact pdec0_a z _ _ _ _ _ _ _ _ w h0 h1 hf eu ev du dv rfl rfl rfl ec cc0 cc1 H
    · intro _ he H; exact pdec0_b z _ _ _ _ _ _ _ _ w h0 h1 hf eu ev du dv rfl rfl rfl ec cc0 cc1 _ (by simpa using he) (by simpa using he) H
    · intro _ _ H; exact pdec0_c z _ _ _ _ _ _ _ _ w h0 h1 hf eu ev du dv rfl rfl rfl ec cc0 cc1 H
  · refine pdec_of z w h0 h1 ⟨1, decide (z / 536870912 % 2 = 1), decide (z / 268435456 % 2 = 1), z / 16777216 % 16, z / 1048576 % 16, 0, z / 65536 % 16, z % 65536⟩ (by simp [As.raw, hf]) ?_ ?_ ?_
    · intro _ H; exact pdec1_a z _ _ _ _ _ _ _ _ w h0 h1 hf eu ev du dv rfl rfl rfl ew nn0 nn1 H
    · intro _ he H; exact pdec1_b z _ _ _ _ _ _ _ _ w h0 h1 hf eu ev du dv rfl rfl rfl ew nn0 nn1 _ (by simpa using he) (by simpa using he) H
    · intro _ _ H; exact pdec1_c z _ _ _ _ _ _ _ _ w h0 h1 hf eu ev du dv rfl rfl rfl ew nn0 nn1 H
  · refine pdec_of z w h0 h1 ⟨2, decide (z / 536870912 % 2 = 1), decide (z / 268435456 % 2 = 1), z / 16777216 % 16, z / 1048576 % 16, 0, 0, As.ext 1048576 z⟩ (by simp [As.raw, hf]) ?_ ?_ ?_
    · intro _ H; exact pdec2_a z _ _ _ _ _ _ _ w h0 h1 hf eu ev du dv rfl rfl rfl H
    · intro _ he H; exact pdec2_b z _ _ _ _ _ _ _ w h0 h1 hf eu ev du dv rfl rfl rfl _ (by simpa using he) (by simpa using he) H
    · intro _ _ H; exact pdec2_c z _ _ _ _ _ _ _ w h0 h1 hf eu ev du dv rfl rfl rfl H
  · by_cases hu : z / 536870912 % 2 = 1
    · refine pdec_of z w h0 h1 ⟨3, true, decide (z / 268435456 % 2 = 1), z / 16777216 % 16, 0, 0, 0, As.ext 16777216 z⟩ (by simp [As.raw, hf, hu]) ?_ ?_ ?_
      · intro _ H; exact pdec3t_a z _ _ _ _ _ w h0 h1 hf eu ev (by rw [hu]; rfl) dv rfl rfl H
      · intro _ he H; exact pdec3t_b z _ _ _ _ _ w h0 h1 hf eu ev (by rw [hu]; rfl) dv rfl rfl _ (by simpa using he) (by simpa using he) H
      · intro _ _ H; exact pdec3t_c z _ _ _ _ _ w h0 h1 hf eu ev (by rw [hu]; rfl) dv rfl rfl H
    · have hu0 : (z / 536870912 % 2 == 1) = false := by rw [beq_eq_false_iff_ne]; exact hu
      refine pdec_of z w h0 h1 ⟨3, false, decide (z / 268435456 % 2 = 1), z / 16777216 % 16, 0, z % 16, 0, 0⟩ (by simp [As.raw, hf, hu]) ?_ ?_ ?_
      · intro _ H; exact pdec3f_a z _ _ _ _ _ w h0 h1 hf eu ev hu0 dv rfl ec cc0 cc1 H
      · intro _ he H; exact pdec3f_b z _ _ _ _ _ w h0 h1 hf eu ev hu0 dv rfl ec cc0 cc1 _ (by simpa using he) (by simpa using he) H
      · intro _ _ H; exact pdec3f_c z _ _ _ _ _ w h0 h1 hf eu ev hu0 dv rfl ec cc0 cc1 H
end Go.Proofs.YtcckbmmjklahfaaDoor
