/- What two constants come to, by the document's definition and by the program's: they are the same. Plain law, no walk. -/
import Derived.Test.YthcpedonpiihnaaConS
import Derived.Test.YthcpedonpiihnaaRefQ
import Derived.Test.YthcpedonpiihnaaArithT
namespace Go.Proofs.Ythcpedonpiihnaa
set_option linter.all false
open Go.RowKit
namespace Sp
def order3 (na nb : Int) (ta tb : List UInt8) : Int := if na < nb then -1 else if nb < na then 1 else Lib.compareBytes ta tb
/-- the document's operation of two, of forms that are no longer turned -/
def rrest (op : List UInt8) (fa na : Int) (ta : List UInt8) (fb nb : Int) (tb : List UInt8) : Int × Int × Int :=
  if (op == [73, 78] && (fa == 1 && fb == 4)) = true then (if na < 0 ∨ 31 < na then (0, 0, 91) else (2, tn (get nb na 1 == 1), 0))
  else if (fa != fb) = true then (0, 0, 120)
  else if ((rel op (order3 na nb ta tb)).2 && (op == [61] || op == [35] || fa == 1 || fa == 3 || fa == 6)) = true then (2, tn (rel op (order3 na nb ta tb)).1, 0)
  else if (fa == 1) = true then rints op na nb
  else if (fa == 4) = true then (if (setop op na nb).2 = true then (4, (setop op na nb).1, 0) else (0, 0, 120))
  else if (fa == 2) = true then (if (op == [38]) = true then (2, tn (na == 1 && nb == 1), 0) else if (op == [79, 82]) = true then (2, tn (na == 1 || nb == 1), 0) else (0, 0, 120))
  else (0, 0, 120)
/-- an operation of two -/
def twoF (op : List UInt8) (fa na : Int) (ta : List UInt8) (fb nb : Int) (tb : List UInt8) : Int × Int × Int :=
  if (good fa na ta && good fb nb tb) = true then
    (if fb = 3 then (if (charF fa na ta).1 = 3 then core op (charF fa na ta).1 (charF fa na ta).2.1 (charF fa na ta).2.2 (charF fb nb tb).1 (charF fb nb tb).2.1 (charF fb nb tb).2.2
      else core op (charF fa na ta).1 (charF fa na ta).2.1 (charF fa na ta).2.2 fb nb tb)
     else if fa = 3 then core op fa na ta (charF fb nb tb).1 (charF fb nb tb).2.1 (charF fb nb tb).2.2 else core op fa na ta fb nb tb)
  else (0, 0, 120)
theorem good_text {f n : Int} {t : List UInt8} (h : good f n t = true) (hf : f ≠ 6) : t = [] := by
  unfold good at h
  rw [if_neg hf] at h
  split at h
  · cases h
  · rename_i h'; simpa using h'
theorem good_6 {n : Int} {t : List UInt8} (h : good 6 n t = true) : n = 0 ∧ goodText t = true := by
  unfold good at h
  rw [if_pos rfl] at h
  simpa using h
theorem good_form {f n : Int} {t : List UInt8} (h : good f n t = true) : f = 1 ∨ f = 2 ∨ f = 3 ∨ f = 4 ∨ f = 5 ∨ f = 6 := by
  unfold good at h
  split at h
  · omega
  · split at h
    · cases h
    · split at h
      · omega
      · split at h
        · omega
        · split at h
          · omega
          · split at h
            · omega
            · simp at h; omega
theorem charF_3 (n : Int) (t : List UInt8) : charF 3 n t = (3, n, t) := by
  unfold charF
  split <;> simp
theorem charF_good {f n : Int} {t : List UInt8} (h : good f n t = true) : good (charF f n t).1 (charF f n t).2.1 (charF f n t).2.2 = true := by
  unfold charF
  split
  · rename_i c
    by_cases h6 : f = 6
    · subst h6
      have := c.toNat_lt
      simp [good]; omega
    · rw [if_neg h6]; exact h
  · exact h
theorem rel_sign (op : List UInt8) (na nb : Int) : rel op (order3 na nb [] []) = rel op (na - nb) := by
  obtain ⟨h1, h2, h3⟩ := rrel_sgn op na nb
  unfold order3
  by_cases a : na < nb
  · rw [if_pos a]; exact h1 a
  · rw [if_neg a]
    by_cases b : nb < na
    · rw [if_pos b]; exact h2 b
    · rw [if_neg b]
      exact h3 (by omega)
theorem rel_order {op : List UInt8} {f na nb : Int} {ta tb : List UInt8} (ga : good f na ta = true) (gb : good f nb tb = true) :
    rel op (order3 na nb ta tb) = rel op (if f = 6 then Lib.compareBytes ta tb else na - nb) := by
  by_cases h6 : f = 6
  · subst h6
    rw [if_pos rfl, (good_6 ga).1, (good_6 gb).1]
    simp [order3]
  · rw [if_neg h6, good_text ga h6, good_text gb h6]
    exact rel_sign op na nb
theorem rrest_core {op : List UInt8} {fa na fb nb : Int} {ta tb : List UInt8} (ga : good fa na ta = true) (gb : good fb nb tb = true) :
    rrest op fa na ta fb nb tb = core op fa na ta fb nb tb := by
  by_cases hf : fa = fb
  · subst hf
    have hr := rel_order (op := op) ga gb
    unfold rrest
    rw [hr]
    have hne : ∀ l : List UInt8, op ≠ l → (op == l) = false := fun l h => by simpa using h
    by_cases o1 : op = [61]
    · subst o1; rcases good_form ga with rfl | rfl | rfl | rfl | rfl | rfl <;> simp [core, rel]
    by_cases o2 : op = [35]
    · subst o2; rcases good_form ga with rfl | rfl | rfl | rfl | rfl | rfl <;> simp [core, rel]
    by_cases o3 : op = [60]
    · subst o3; rcases good_form ga with rfl | rfl | rfl | rfl | rfl | rfl <;> simp [core, rel, rints, setop]
    by_cases o4 : op = [60, 61]
    · subst o4; rcases good_form ga with rfl | rfl | rfl | rfl | rfl | rfl <;> simp [core, rel, rints, setop]
    by_cases o5 : op = [62]
    · subst o5; rcases good_form ga with rfl | rfl | rfl | rfl | rfl | rfl <;> simp [core, rel, rints, setop]
    by_cases o6 : op = [62, 61]
    · subst o6; rcases good_form ga with rfl | rfl | rfl | rfl | rfl | rfl <;> simp [core, rel, rints, setop]
    have hn : ∀ n, rel op n = (false, false) := fun n => by simp [rel, o1, o2, o3, o4, o5, o6]
    rw [hn]
    have c := core
    rcases good_form ga with rfl | rfl | rfl | rfl | rfl | rfl
    · simp [core, rints, o1, o2, o3, o4, o5, o6]
    · simp [core, boolF, o1, o2, o3, o4, o5, o6]
    · simp [core, o1, o2, o3, o4, o5, o6]
    · simp [core, setop, o1, o2, o3, o4, o5, o6]
      by_cases p1 : op = [43]
      · simp [p1]
      · by_cases p2 : op = [45]
        · simp [p2]
        · by_cases p3 : op = [42]
          · simp [p3]
          · by_cases p4 : op = [47]
            · simp [p4]
            · simp [p1, p2, p3, p4]
    · simp [core, o1, o2, o3, o4, o5, o6]
    · simp [core, o1, o2, o3, o4, o5, o6]
  · have hf' : (fa != fb) = true := by simpa using hf
    unfold rrest
    by_cases hin : op = [73, 78] ∧ fa = 1 ∧ fb = 4
    · obtain ⟨rfl, rfl, rfl⟩ := hin
      rw [if_pos (by decide)]
      simp only [core, inF]
      have b4 := good_4 gb
      simp
      split
      · rfl
      · obtain ⟨k, rfl⟩ := Int.eq_ofNat_of_zero_le (show 0 ≤ na by omega)
        rw [elem_and nb k (by omega) b4.1 b4.2]
        simp
    · rw [if_neg (by simpa using hin), if_pos hf']
      unfold core
      have h1 : ¬ (fa = 1 ∧ fb = 1) := by omega
      have h4 : ¬ (fa = 4 ∧ fb = 4) := by omega
      have h2 : ¬ (fa = 2 ∧ fb = 2) := by omega
      rw [if_neg (fun h => h1 ⟨h.1, h.2.1⟩), if_neg (fun h => h1 ⟨h.1, h.2.1⟩), if_neg (fun h => h1 ⟨h.1, h.2.1⟩), if_neg (fun h => h1 ⟨h.1, h.2.1⟩), if_neg (fun h => h1 ⟨h.1, h.2.1⟩), if_neg (fun h => h4 ⟨h.1, h.2.1⟩), if_neg (fun h => h4 ⟨h.1, h.2.1⟩), if_neg (fun h => h4 ⟨h.1, h.2.1⟩), if_neg (fun h => h4 ⟨h.1, h.2.1⟩), if_neg (fun h => hin ⟨h.2.2, h.1, h.2.1⟩), if_neg (fun h => hf h.1), if_neg (fun h => h2 ⟨h.1, h.2.1⟩), if_neg (fun h => h2 ⟨h.1, h.2.1⟩)]
end Sp
end Go.Proofs.Ythcpedonpiihnaa
