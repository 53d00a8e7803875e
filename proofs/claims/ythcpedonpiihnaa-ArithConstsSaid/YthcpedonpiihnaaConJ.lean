/- What the program's and the document's operation of two constants come to, at any values: the same plain function. Conditions: numbers lie in their bounds; texts are shorter than a text may be. -/
import Derived.Test.YthcpedonpiihnaaConVa
import Derived.Test.YthcpedonpiihnaaConVb
import Derived.Test.YthcpedonpiihnaaConVc
import Derived.Test.YthcpedonpiihnaaRefTb
import Derived.Test.YthcpedonpiihnaaRefT1
import Derived.Test.YthcpedonpiihnaaRefT2
import Derived.Test.YthcpedonpiihnaaRefT4
import Derived.Test.YthcpedonpiihnaaRefT5
import Derived.Test.YthcpedonpiihnaaRefT6
import Derived.Test.YthcpedonpiihnaaRefTn
import Derived.Test.YthcpedonpiihnaaRefT3
import Derived.Test.YthcpedonpiihnaaRefT4c
namespace Go.Proofs.Ythcpedonpiihnaa
set_option linter.all false
open Go.RowKit
theorem charF_ex (f n : Int) (t : ByteArray) : ∃ (f' n' : Int) (t' : ByteArray), Sp.charF f n t.data.toList = (f', n', t'.data.toList) :=
  ⟨(Sp.charF f n t.data.toList).1, (Sp.charF f n t.data.toList).2.1, ⟨(Sp.charF f n t.data.toList).2.2.toArray⟩, rfl⟩
theorem form_bd {f n : Int} {t : List UInt8} (h : Sp.good f n t = true) : -9223372036854775808 ≤ f ∧ f < 9223372036854775808 := by
  rcases Sp.good_form h with rfl | rfl | rfl | rfl | rfl | rfl <;> decide
theorem Two_any (op : ByteArray) (fa na fb nb : Int) (ta tb : ByteArray) (w : World) (sa : ta.size < 4294967281) (sb : tb.size < 4294967281) (so : op.size ≤ maxLen)
    (a0 : -9223372036854775808 ≤ na) (a1 : na < 9223372036854775808) (b0 : -9223372036854775808 ≤ nb) (b1 : nb < 9223372036854775808) :
    Calls Try.prog 18 #[.string op, .agg #[.int .i64 fa, .int .i64 na, .string ta], .agg #[.int .i64 fb, .int .i64 nb, .string tb]] w fun e w' =>
      e = .returned (Sp.R (Sp.twoF op.data.toList fa na ta.data.toList fb nb tb.data.toList)) ∧ ∃ g, w' = more w g := by
  by_cases hg : (Sp.good fa na ta.data.toList && Sp.good fb nb tb.data.toList) = true
  · have hT : Sp.twoF op.data.toList fa na ta.data.toList fb nb tb.data.toList = _ := if_pos hg
    rw [hT]
    obtain ⟨ga, gb⟩ := Bool.and_eq_true _ _ ▸ hg
    have bfa := form_bd ga
    have bfb := form_bd gb
    by_cases hb : fb = 3
    · subst hb
      rw [if_pos rfl, Sp.charF_3 nb]
      obtain ⟨fa', na', ta', hc⟩ := charF_ex fa na ta
      have gc := Sp.charF_good ga
      rw [hc] at gc ⊢
      by_cases ha : fa' = 3
      · subst ha
        rw [if_pos rfl]
        exact Two_a op na nb ta tb w sa sb so a0 a1 b0 b1 fa na' ta' ga gb ⟨hc, gc, Sp.charF_3 nb _⟩
      · rw [if_neg ha]
        have bf := form_bd gc
        exact Two_b op na nb ta tb w sa sb so a0 a1 b0 b1 fa fa' na' ta' bf.1 bf.2 ga gb (by simpa using ha) ⟨hc, gc⟩
    · rw [if_neg hb]
      by_cases ha : fa = 3
      · subst ha
        rw [if_pos rfl]
        obtain ⟨fb', nb', tb', hc⟩ := charF_ex fb nb tb
        have gc := Sp.charF_good gb
        rw [hc] at gc ⊢
        have bf := form_bd gc
        exact Two_c op na nb ta tb w sa sb so a0 a1 b0 b1 fb fb' nb' tb' bf.1 bf.2 ga gb (by simpa using hb) ⟨hc, gc⟩
      · rw [if_neg ha]
        exact Two_d op fa na fb nb ta tb w sa sb so bfa.1 bfa.2 bfb.1 bfb.2 a0 a1 b0 b1 ga gb (by simpa using ha) (by simpa using hb)
  · have hg' : (Sp.good fa na ta.data.toList && Sp.good fb nb tb.data.toList) = false := by simpa using hg
    have hT : Sp.twoF op.data.toList fa na ta.data.toList fb nb tb.data.toList = _ := if_neg hg
    rw [hT]
    exact Two_bad op fa na fb nb ta tb w sa sb a0 a1 b0 b1 hg'
theorem rTwo_any (op : ByteArray) (fa na fb nb : Int) (ta tb : ByteArray) (w : World) (sa : ta.size < 4294967281) (sb : tb.size < 4294967281)
    (a0 : -9223372036854775808 ≤ na) (a1 : na < 9223372036854775808) (b0 : -9223372036854775808 ≤ nb) (b1 : nb < 9223372036854775808) :
    Calls Try.prog 19 #[.string op, .agg #[.int .i64 fa, .int .i64 na, .string ta], .agg #[.int .i64 fb, .int .i64 nb, .string tb]] w fun e w' =>
      e = .returned (Sp.R (Sp.twoF op.data.toList fa na ta.data.toList fb nb tb.data.toList)) ∧ ∃ g, w' = more w g := by
  rw [← ByteArray.toList_eq]
  by_cases hg : (Sp.good fa na ta.data.toList && Sp.good fb nb tb.data.toList) = true
  · have hT : Sp.twoF op.toList fa na ta.data.toList fb nb tb.data.toList = _ := if_pos hg
    rw [hT]
    obtain ⟨ga, gb⟩ := Bool.and_eq_true _ _ ▸ hg
    by_cases hb : fb = 3
    · subst hb
      rw [if_pos rfl, Sp.charF_3 nb]
      obtain ⟨fa', na', ta', hc⟩ := charF_ex fa na ta
      have gc := Sp.charF_good ga
      by_cases h3 : fa = 3
      · subst h3
        rw [Sp.charF_3] at hc gc ⊢
        rw [if_pos rfl, ← Sp.rrest_core ga gb]
        exact rTwo_3y op na 3 nb nb ta tb tb w sa sb a0 a1 b0 b1 ga gb (Sp.charF_3 nb _)
      · rw [hc] at gc ⊢
        by_cases ha : fa' = 3
        · subst ha
          rw [if_pos rfl, ← Sp.rrest_core gc gb]
          exact rTwo_4y op fa na nb na' ta tb ta' w sa sb a0 a1 b0 b1 ga gb (by simpa using h3) hc
        · rw [if_neg ha, ← Sp.rrest_core gc gb]
          exact rTwo_4n op fa na nb fa' na' ta tb ta' w sa sb a0 a1 b0 b1 ga gb (by simpa using h3) hc (by simpa using ha) (by simpa using ha)
    · rw [if_neg hb]
      by_cases ha : fa = 3
      · subst ha
        rw [if_pos rfl]
        obtain ⟨fb', nb', tb', hc⟩ := charF_ex fb nb tb
        have gc := Sp.charF_good gb
        rw [hc] at gc ⊢
        rw [← Sp.rrest_core ga gc]
        by_cases hb' : fb' = 3
        · subst hb'
          exact rTwo_3y op na fb nb nb' ta tb tb' w sa sb a0 a1 b0 b1 ga gb hc
        · exact rTwo_3n op na fb nb fb' nb' ta tb tb' w sa sb a0 a1 b0 b1 ga gb hc (by simpa using hb') (by simpa using (fun e => hb' e.symm : ¬ 3 = fb'))
      · rw [if_neg ha, ← Sp.rrest_core ga gb]
        by_cases hf : fa = fb
        · subst hf
          rcases Sp.good_form ga with rfl | rfl | rfl | rfl | rfl | rfl
          · exact rTwo_1 op na nb ta tb w sa sb a0 a1 b0 b1 ga gb
          · exact rTwo_2 op na nb ta tb w sa sb a0 a1 b0 b1 ga gb
          · exact absurd rfl ha
          · exact rTwo_4 op na nb ta tb w sa sb a0 a1 b0 b1 ga gb
          · exact rTwo_5 op na nb ta tb w sa sb a0 a1 b0 b1 ga gb
          · exact rTwo_6 op na nb ta tb w sa sb a0 a1 b0 b1 ga gb
        · exact rTwo_n op fa na fb nb ta tb w sa sb a0 a1 b0 b1 ga gb (by simpa using ha) (by simpa using hb) (by simpa using hf)
  · have hg' : (Sp.good fa na ta.data.toList && Sp.good fb nb tb.data.toList) = false := by simpa using hg
    have hT : Sp.twoF op.toList fa na ta.data.toList fb nb tb.data.toList = _ := if_neg hg
    rw [hT]
    exact rTwo_bad op fa na fb nb ta tb w sa sb a0 a1 b0 b1 hg'
end Go.Proofs.Ythcpedonpiihnaa
