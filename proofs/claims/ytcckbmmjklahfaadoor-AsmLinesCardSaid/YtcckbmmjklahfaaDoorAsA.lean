/- The walks of the program's bits.Get, bits.Extend, bits.Fits, risc.half, risc.bit at the places where risc calls them. Conditions: numbers lie in their bounds. -/
import Derived.Test.YtcckbmmjklahfaaDoorChecked
import Derived.Test.YtcckbmmjklahfaaDoorAsQ
import Derived.Test.YtcckbmmjklahfaaDoorLt2W
import Derived.Test.YtcckbmmjklahfaaDoorAppendW
import Derived.Laws.BitsAllLaws
import Derived.BigQuiet
import Derived.ProofKit
namespace Go.Proofs.YtcckbmmjklahfaaDoor
set_option linter.all false
open Go.RowKit
namespace As
theorem and15 (z : Int) (h0 : 0 ≤ z) (h1 : z < 4294967296) : bits .and .u32 z 15 = z % 16 := by
  have := u32_and z 15 h0 h1 (by decide) (by decide)
  rw [show (15 : Int).toNat = 15 from rfl, nat_mask4] at this
  omega
end As
set_option maxRecDepth 100000 in
theorem inside_any (i : Int) (w : World) (h : i = 24 ∨ i = 20 ∨ i = 16) : Calls Tryd.prog 42 #[.int .i64 i, .int .i64 4] w fun e w' => e = .returned (.bool true) ∧ w' = w := by
  have i0 : 0 ≤ i := by omega
  have i1 : i ≤ 28 := by omega
  clear h
  go_enter Tryd.func42, Tryd.ntmps42
  go_wp2
  go_ret
  exact ⟨rfl, rfl⟩
set_option maxRecDepth 100000 in
theorem mask_any (w : World) : Calls Tryd.prog 43 #[.int .i64 4] w fun e w' => e = .returned (.int .u32 15) ∧ ∃ g, w' = more w g := by
  go_enter Tryd.func43, Tryd.ntmps43
  go_wp2
  go_ret
  exact ⟨rfl, more_refl _⟩
set_option maxRecDepth 100000 in
theorem get24_any (z : Int) (w : World) (h0 : 0 ≤ z) (h1 : z < 4294967296) :
    Calls Tryd.prog 28 #[.int .u32 z, .int .i64 24, .int .i64 4] w fun e w' => e = .returned (.int .u32 (z / 16777216 % 16)) ∧ ∃ g, w' = more w g := by
  have hm := As.and15 (z / 16777216) (by omega) (by omega)
  go_enter Tryd.func28, Tryd.ntmps28
  go_wp2_with (go_at_call 42; (with_reducible refine (inside_any _ _ (by omega)).mono ?_); rintro e w2 ⟨rfl, rfl⟩)
  refine wp_region_more (by kernel_rfl) (by kernel_rfl) ?_
  repeat (first | go_big_quiet_skip | (go_big_quiet_want; go_big_quiet_op; first | go_big_quiet_on | (apply Exists.intro; refine ⟨fun _ => ?_, ?_⟩; (focus (first | (go_at_call 43; exact mo_in (mask_any _)))); go_big_quiet_on)))
  refine wpQuiet_nil ?_
  intro _ hw'
  obtain ⟨gq, rfl⟩ := hw'
  go_wp2
  go_ret
  exact ⟨rfl, more_of_below (by repeat' (first | (with_reducible exact Below.refl _ _) | (with_reducible assumption) | (with_reducible refine below_more ?_ ?_ _) | (with_reducible refine below_drewN ?_ _) | (with_reducible refine Below.drew ?_) | (with_reducible refine Below.alloc ?_ ?_ _) | (with_reducible refine Below.setCell ?_ ?_ _) | go_size | (simp [more_size]; done) | (simp [more_size]; omega)))⟩
set_option maxRecDepth 100000 in
theorem ext20_any (z : Int) (w : World) (h0 : 0 ≤ z) (h1 : z < 4294967296) :
    Calls Tryd.prog 29 #[.int .u32 z, .int .i64 20] w fun e w' => e = .returned (.int .i64 (As.ext 1048576 z)) ∧ ∃ g, w' = more w g := by
  go_enter Tryd.func29, Tryd.ntmps29
  go_wp2
  go_ret
  refine ⟨?_, more_refl _⟩
  show Ending.returned (.int .i64 (wrap64 (wrap32 (z * 4096 % 4294967296) / 4096))) = _
  congr 2
  unfold As.ext
  unfold wrap32 wrap64
  split <;> omega
set_option maxRecDepth 100000 in
theorem fits20_any (z : Int) (w : World) :
    Calls Tryd.prog 56 #[.int .i64 z, .int .i64 20] w fun e w' => e = .returned (.bool (decide (-524288 ≤ z) && decide (z < 524288))) ∧ ∃ g, w' = more w g := by
  go_enter Tryd.func56, Tryd.ntmps56
  go_wp2
  all_goals go_ret
  all_goals exact ⟨by simp [*]; try omega, more_refl _⟩
set_option maxRecDepth 100000 in
theorem half4_any (z : Int) (w : World) :
    Calls Tryd.prog 55 #[.int .i64 z, .int .i64 4] w fun e w' => e = .returned (.bool (decide (0 ≤ z) && decide (z < 16))) ∧ ∃ g, w' = more w g := by
  go_enter Tryd.func55, Tryd.ntmps55
  go_wp2
  all_goals go_ret
  all_goals exact ⟨by simp [*]; try omega, more_refl _⟩
set_option maxRecDepth 100000 in
theorem bit29_any (b : Bool) (w : World) :
    Calls Tryd.prog 45 #[.bool b, .int .i64 29] w fun e w' => e = .returned (.int .u32 (if b then 536870912 else 0)) ∧ ∃ g, w' = more w g := by
  cases b
  · go_enter Tryd.func45, Tryd.ntmps45
    go_wp2
    go_ret
    exact ⟨rfl, more_refl _⟩
  · go_enter Tryd.func45, Tryd.ntmps45
    go_wp2
    go_ret
    exact ⟨rfl, more_refl _⟩
set_option maxRecDepth 100000 in
theorem get20_any (z : Int) (w : World) (h0 : 0 ≤ z) (h1 : z < 4294967296) :
    Calls Tryd.prog 28 #[.int .u32 z, .int .i64 20, .int .i64 4] w fun e w' => e = .returned (.int .u32 (z / 1048576 % 16)) ∧ ∃ g, w' = more w g := by
  have hm := As.and15 (z / 1048576) (by omega) (by omega)
  go_enter Tryd.func28, Tryd.ntmps28
  go_wp2_with (go_at_call 42; (with_reducible refine (inside_any _ _ (by omega)).mono ?_); rintro e w2 ⟨rfl, rfl⟩)
  refine wp_region_more (by kernel_rfl) (by kernel_rfl) ?_
  repeat (first | go_big_quiet_skip | (go_big_quiet_want; go_big_quiet_op; first | go_big_quiet_on | (apply Exists.intro; refine ⟨fun _ => ?_, ?_⟩; (focus (first | (go_at_call 43; exact mo_in (mask_any _)))); go_big_quiet_on)))
  refine wpQuiet_nil ?_
  intro _ hw'
  obtain ⟨gq, rfl⟩ := hw'
  go_wp2
  go_ret
  exact ⟨rfl, more_of_below (by repeat' (first | (with_reducible exact Below.refl _ _) | (with_reducible assumption) | (with_reducible refine below_more ?_ ?_ _) | (with_reducible refine below_drewN ?_ _) | (with_reducible refine Below.drew ?_) | (with_reducible refine Below.alloc ?_ ?_ _) | (with_reducible refine Below.setCell ?_ ?_ _) | go_size | (simp [more_size]; done) | (simp [more_size]; omega)))⟩
set_option maxRecDepth 100000 in
theorem get16_any (z : Int) (w : World) (h0 : 0 ≤ z) (h1 : z < 4294967296) :
    Calls Tryd.prog 28 #[.int .u32 z, .int .i64 16, .int .i64 4] w fun e w' => e = .returned (.int .u32 (z / 65536 % 16)) ∧ ∃ g, w' = more w g := by
  have hm := As.and15 (z / 65536) (by omega) (by omega)
  go_enter Tryd.func28, Tryd.ntmps28
  go_wp2_with (go_at_call 42; (with_reducible refine (inside_any _ _ (by omega)).mono ?_); rintro e w2 ⟨rfl, rfl⟩)
  refine wp_region_more (by kernel_rfl) (by kernel_rfl) ?_
  repeat (first | go_big_quiet_skip | (go_big_quiet_want; go_big_quiet_op; first | go_big_quiet_on | (apply Exists.intro; refine ⟨fun _ => ?_, ?_⟩; (focus (first | (go_at_call 43; exact mo_in (mask_any _)))); go_big_quiet_on)))
  refine wpQuiet_nil ?_
  intro _ hw'
  obtain ⟨gq, rfl⟩ := hw'
  go_wp2
  go_ret
  exact ⟨rfl, more_of_below (by repeat' (first | (with_reducible exact Below.refl _ _) | (with_reducible assumption) | (with_reducible refine below_more ?_ ?_ _) | (with_reducible refine below_drewN ?_ _) | (with_reducible refine Below.drew ?_) | (with_reducible refine Below.alloc ?_ ?_ _) | (with_reducible refine Below.setCell ?_ ?_ _) | go_size | (simp [more_size]; done) | (simp [more_size]; omega)))⟩
set_option maxRecDepth 100000 in
theorem ext24_any (z : Int) (w : World) (h0 : 0 ≤ z) (h1 : z < 4294967296) :
    Calls Tryd.prog 29 #[.int .u32 z, .int .i64 24] w fun e w' => e = .returned (.int .i64 (As.ext 16777216 z)) ∧ ∃ g, w' = more w g := by
  go_enter Tryd.func29, Tryd.ntmps29
  go_wp2
  go_ret
  refine ⟨?_, more_refl _⟩
  show Ending.returned (.int .i64 (wrap64 (wrap32 (z * 256 % 4294967296) / 256))) = _
  congr 2
  unfold As.ext
  unfold wrap32 wrap64
  split <;> omega
set_option maxRecDepth 100000 in
theorem fits24_any (z : Int) (w : World) :
    Calls Tryd.prog 56 #[.int .i64 z, .int .i64 24] w fun e w' => e = .returned (.bool (decide (-8388608 ≤ z) && decide (z < 8388608))) ∧ ∃ g, w' = more w g := by
  go_enter Tryd.func56, Tryd.ntmps56
  go_wp2
  all_goals go_ret
  all_goals exact ⟨by simp [*]; try omega, more_refl _⟩
set_option maxRecDepth 100000 in
theorem half16_any (z : Int) (w : World) :
    Calls Tryd.prog 55 #[.int .i64 z, .int .i64 16] w fun e w' => e = .returned (.bool (decide (0 ≤ z) && decide (z < 65536))) ∧ ∃ g, w' = more w g := by
  go_enter Tryd.func55, Tryd.ntmps55
  go_wp2
  all_goals go_ret
  all_goals exact ⟨by simp [*]; try omega, more_refl _⟩
set_option maxRecDepth 100000 in
theorem bit28_any (b : Bool) (w : World) :
    Calls Tryd.prog 45 #[.bool b, .int .i64 28] w fun e w' => e = .returned (.int .u32 (if b then 268435456 else 0)) ∧ ∃ g, w' = more w g := by
  cases b
  · go_enter Tryd.func45, Tryd.ntmps45
    go_wp2
    go_ret
    exact ⟨rfl, more_refl _⟩
  · go_enter Tryd.func45, Tryd.ntmps45
    go_wp2
    go_ret
    exact ⟨rfl, more_refl _⟩
end Go.Proofs.YtcckbmmjklahfaaDoor
