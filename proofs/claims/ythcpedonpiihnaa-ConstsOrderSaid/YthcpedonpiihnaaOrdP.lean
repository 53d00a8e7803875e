/- The relations of two constants hang together, by plain definition. No program in sight. -/
import Derived.Test.YthcpedonpiihnaaConQ
namespace Go.Proofs.Ythcpedonpiihnaa
set_option linter.all false
namespace Sp
theorem twoF_conv {fa na fb nb : Int} {ta tb : List UInt8} (hg : (good fa na ta && good fb nb tb) = true) :
    ∃ (fa' na' : Int) (ta' : List UInt8) (fb' nb' : Int) (tb' : List UInt8), ∀ op, twoF op fa na ta fb nb tb = core op fa' na' ta' fb' nb' tb' := by
  by_cases h1 : fb = 3
  · by_cases h2 : (charF fa na ta).1 = 3
    · exact ⟨_, _, _, _, _, _, fun op => by unfold twoF; rw [if_pos hg, if_pos h1, if_pos h2]⟩
    · exact ⟨_, _, _, _, _, _, fun op => by unfold twoF; rw [if_pos hg, if_pos h1, if_neg h2]⟩
  · by_cases h2 : fa = 3
    · exact ⟨_, _, _, _, _, _, fun op => by unfold twoF; rw [if_pos hg, if_neg h1, if_pos h2]⟩
    · exact ⟨_, _, _, _, _, _, fun op => by unfold twoF; rw [if_pos hg, if_neg h1, if_neg h2]⟩
theorem core_rel {fa na fb nb : Int} {ta tb : List UInt8} (h : (core [60] fa na ta fb nb tb).2.2 = 0) :
    ∃ d : Int, core [60] fa na ta fb nb tb = (2, tn (decide (d < 0)), 0) ∧ core [61] fa na ta fb nb tb = (2, tn (d == 0), 0) ∧ core [62] fa na ta fb nb tb = (2, tn (decide (0 < d)), 0) ∧
      core [60, 61] fa na ta fb nb tb = (2, tn (decide (d ≤ 0)), 0) ∧ core [35] fa na ta fb nb tb = (2, tn (d != 0), 0) ∧ core [62, 61] fa na ta fb nb tb = (2, tn (decide (0 ≤ d)), 0) := by
  by_cases hc : fa = fb ∧ 1 ≤ fa ∧ fa ≤ 6 ∧ (fa = 1 ∨ fa = 3 ∨ fa = 6)
  · obtain ⟨rfl, h2, h3, h4⟩ := hc
    refine ⟨if fa = 6 then Lib.compareBytes ta tb else na - nb, ?_⟩
    simp [core, h2, h3, h4, rel]
  · exfalso
    revert h
    simp only [core]
    simp
    rw [if_neg (fun h => hc h)]
    simp
end Sp
end Go.Proofs.Ythcpedonpiihnaa
