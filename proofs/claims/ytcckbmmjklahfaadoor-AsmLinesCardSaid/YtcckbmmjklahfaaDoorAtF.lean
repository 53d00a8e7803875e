/- The waking call of the laws on asm. Conditions: the library's variables are as they were laid. -/
import Derived.Test.YtcckbmmjklahfaaDoorAsK
import Derived.KernelRfl
namespace Go.Proofs.YtcckbmmjklahfaaDoor
set_option linter.all false
open Go.RowKit
theorem wake_line : As.lineF 19398659 = some [65, 68, 68, 32, 82, 49, 44, 32, 82, 50, 44, 32, 82, 51] := by decide +kernel
theorem wake_word : As.wordF [66, 76, 46, 84, 32, 45, 49] = (4160749567, 0) := by decide +kernel
theorem wakes_any (w : World) (hg : Ga w) : Calls Tryd.prog 6 #[] w fun e w' => e = .returned (.bool true) ∧ ∃ g, w' = more w g := by
  have HG := Lib.hid hg
  have HL := Lib.hid (show ∀ w, Ga w → Calls Tryd.prog 4 #[.int .u32 19398659] w fun e w' => e = .returned (.tuple #[.string ⟨#[65, 68, 68, 32, 82, 49, 44, 32, 82, 50, 44, 32, 82, 51]⟩, .int .i64 0]) ∧ ∃ g, w' = more w g from fun w hg =>
    (Line_any 19398659 (by decide) (by decide) w hg).mono fun e w' ⟨⟨t, c, he, h⟩, hw⟩ => ⟨by
      rw [wake_line] at h
      rcases h with ⟨h, _⟩ | ⟨h, hc⟩
      · cases h
      · rw [Option.some.injEq] at h
        have : t = ⟨#[65, 68, 68, 32, 82, 49, 44, 32, 82, 50, 44, 32, 82, 51]⟩ := ByteArray.ext (Array.ext' (by rw [← h]))
        rw [he, this, hc], hw⟩)
  have HW := Lib.hid (show ∀ w, Ga w → Calls Tryd.prog 14 #[.string ⟨#[66, 76, 46, 84, 32, 45, 49]⟩] w fun e w' => e = .returned (.tuple #[.int .u32 4160749567, .int .i64 0]) ∧ ∃ g, w' = more w g from fun w hg =>
    (Word_any ⟨#[66, 76, 46, 84, 32, 45, 49]⟩ w hg).mono fun e w' ⟨he, hw⟩ => ⟨by
      rw [show (⟨#[66, 76, 46, 84, 32, 45, 49]⟩ : ByteArray).data.toList = [66, 76, 46, 84, 32, 45, 49] from rfl, wake_word] at he
      exact he, hw⟩)
  clear hg
  go_enter Tryd.func6, Tryd.ntmps6
  go_wp2_with (first | (go_at_call 4; (with_reducible refine (HL.out _ HG.out).mono ?_); rintro e w2 ⟨rfl, g, rfl⟩) | (go_at_call 14; (with_reducible refine (HW.out _ (HG.out.more _)).mono ?_); rintro e w2 ⟨rfl, g2, rfl⟩))
  go_ret
  exact ⟨rfl, more_of_below (by repeat' (first | (with_reducible exact Below.refl _ _) | (with_reducible assumption) | (with_reducible refine below_more ?_ ?_ _) | (with_reducible refine below_drewN ?_ _) | (with_reducible refine Below.drew ?_) | (with_reducible refine Below.alloc ?_ ?_ _) | (with_reducible refine Below.setCell ?_ ?_ _) | go_size | (simp [more_size]; done) | (simp [more_size]; omega)))⟩
end Go.Proofs.YtcckbmmjklahfaaDoor
