/- The law AsmWords, walked: the word of every line, or that it is none. Conditions: the library's variables are as they were laid. -/
import Derived.Test.YtcckbmmjklahfaaGreatDoorAtE
import Derived.Test.YtcckbmmjklahfaaGreatDoorAtF
namespace Go.Proofs.YtcckbmmjklahfaaGreatDoor
set_option linter.all false
open Go.RowKit
set_option maxRecDepth 100000 in
set_option maxHeartbeats 1600000 in
theorem AsmWords_any (s : ByteArray) (w : World) (hg : Ga w) : Calls Tryz.prog 3 #[.string s] w fun e w' => e = .returned (.bool true) ∧ Below w.heap.size w w' := by
  have HG := Lib.hid hg
  have HK := Lib.hid (fun w hg => wakes_any w hg)
  by_cases h2 : 20000 < s.size
  · have h3 : (20000 : Int) < (s.size : Int) := by omega
    clear h2 hg
    go_enter Tryz.func3, Tryz.ntmps3
    go_wp2_with (go_at_call 6; (with_reducible refine (HK.out _ HG.out).mono ?_); rintro e w2 ⟨rfl, g, rfl⟩)
    go_ret
    exact ⟨rfl, (by repeat' (first | (with_reducible exact Below.refl _ _) | (with_reducible assumption) | (with_reducible refine below_more ?_ ?_ _) | (with_reducible refine below_drewN ?_ _) | (with_reducible refine Below.drew ?_) | (with_reducible refine Below.alloc ?_ ?_ _) | (with_reducible refine Below.setCell ?_ ?_ _) | go_size | (simp [more_size]; done) | (simp [more_size]; omega)))⟩
  · have h3 : (s.size : Int) ≤ 20000 := by omega
    have HW := Lib.hid (fun w hg => Word_any s w hg)
    have HR := Lib.hid (fun w => rWord_any s w (by omega))
    generalize As.wordF s.data.toList = r at *
    obtain ⟨z, c⟩ := r
    clear h2 hg
    go_enter Tryz.func3, Tryz.ntmps3
    go_wp2_with (first | (go_at_call 7; (with_reducible refine (HW.out _ HG.out).mono ?_); rintro e w2 ⟨rfl, g, rfl⟩) | (go_at_call 8; (with_reducible refine (HR.out _).mono ?_); rintro e w2 ⟨rfl, g2, rfl⟩) | (go_at_call 6; (with_reducible refine (HK.out _ (HG.out.more _)).mono ?_); rintro e w2 ⟨rfl, g3, rfl⟩))
    go_ret
    exact ⟨rfl, (by repeat' (first | (with_reducible exact Below.refl _ _) | (with_reducible assumption) | (with_reducible refine below_more ?_ ?_ _) | (with_reducible refine below_drewN ?_ _) | (with_reducible refine Below.drew ?_) | (with_reducible refine Below.alloc ?_ ?_ _) | (with_reducible refine Below.setCell ?_ ?_ _) | go_size | (simp [more_size]; done) | (simp [more_size]; omega)))⟩
end Go.Proofs.YtcckbmmjklahfaaGreatDoor
