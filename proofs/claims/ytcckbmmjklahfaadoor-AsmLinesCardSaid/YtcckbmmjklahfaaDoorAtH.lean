/- The law AsmLines, walked: the line of every word, or that it is none. Conditions: the library's variables are as they were laid; the word is one. -/
import Derived.Test.YtcckbmmjklahfaaDoorAtD
import Derived.Test.YtcckbmmjklahfaaDoorAtF
namespace Go.Proofs.YtcckbmmjklahfaaDoor
set_option linter.all false
open Go.RowKit
set_option maxRecDepth 100000 in
set_option maxHeartbeats 1600000 in
theorem AsmLines_any (z : Int) (w : World) (hg : Ga w) (h0 : 0 ≤ z) (h1 : z < 4294967296) : Calls Tryd.prog 3 #[.int .u32 z] w fun e w' => e = .returned (.bool true) ∧ Below w.heap.size w w' := by
  have HG := Lib.hid hg
  have HK := Lib.hid (fun w hg => wakes_any w hg)
  obtain ⟨t, c, hR, h⟩ := rline_is z h0 h1
  have HR := Lib.hid hR
  have HL := Lib.hid (show ∀ w, Ga w → Calls Tryd.prog 4 #[.int .u32 z] w fun e w' => e = .returned (.tuple #[.string t, .int .i64 c]) ∧ ∃ g, w' = more w g from fun w hg =>
    (Line_any z h0 h1 w hg).mono fun e w' ⟨⟨t2, c2, he, h2⟩, hw⟩ => ⟨by
      rcases h with ⟨h, ht, hc⟩ | ⟨h, hc⟩
      · rcases h2 with ⟨_, ht2, hc2⟩ | ⟨h2, _⟩
        · rw [he, ht, hc, ht2, hc2]
        · rw [h] at h2; exact (by cases h2)
      · rcases h2 with ⟨h2, _⟩ | ⟨h2, hc2⟩
        · rw [h] at h2; exact (by cases h2)
        · rw [h, Option.some.injEq] at h2
          have : t2 = t := ByteArray.ext (Array.ext' h2.symm)
          rw [he, this, hc, hc2], hw⟩)
  clear h hR hg h0 h1
  go_enter Tryd.func3, Tryd.ntmps3
  go_wp2_with (first | (go_at_call 4; (with_reducible refine (HL.out _ HG.out).mono ?_); rintro e w2 ⟨rfl, g, rfl⟩) | (go_at_call 5; (with_reducible refine (HR.out _).mono ?_); rintro e w2 ⟨rfl, g2, rfl⟩) | (go_at_call 6; (with_reducible refine (HK.out _ (HG.out.more _)).mono ?_); rintro e w2 ⟨rfl, g3, rfl⟩))
  go_ret
  exact ⟨rfl, (by repeat' (first | (with_reducible exact Below.refl _ _) | (with_reducible assumption) | (with_reducible refine below_more ?_ ?_ _) | (with_reducible refine below_drewN ?_ _) | (with_reducible refine Below.drew ?_) | (with_reducible refine Below.alloc ?_ ?_ _) | (with_reducible refine Below.setCell ?_ ?_ _) | go_size | (simp [more_size]; done) | (simp [more_size]; omega)))⟩
end Go.Proofs.YtcckbmmjklahfaaDoor
