/- Where constants of numbers are reckoned without an error, programs reckon the same: by plain definition. No program in sight. -/
import Derived.Test.YthcpedonpiihnaaCallV
import Derived.Test.YthcpedonpiihnaaLwD
namespace Go.Proofs.Ythcpedonpiihnaa
set_option linter.all false
namespace Sp
/-- what the law asks of an operation -/
def Agrees (r : Int × Int × Int) (i : Int × Int × Bool) (q : Bool × Bool) : Prop :=
  (r.2.2 ≠ 0 ∧ r.2.2 ≠ 121) ∨ (r.2.2 = 121 ∧ i.2.1 = 6) ∨ (r.2.2 = 0 ∧ r.1 = 1 ∧ i = (r.2.1, 0, true)) ∨ (r.2.2 = 0 ∧ r.1 = 2 ∧ q.2 = true ∧ (r.2.1 == 1) = q.1)
theorem sgn_fits {x : Int} (h : fit x = true) : sgn (x % 4294967296) = x := sgn_word x h
theorem arith_fits {x : Int} {i : Int × Int × Bool} {q : Bool × Bool} (h : i = (sgn (x % 4294967296), 0, true)) : Agrees (fitsF x) i q := by
  unfold fitsF
  by_cases hf : fit x = true
  · rw [if_pos hf]
    exact .inr (.inr (.inl ⟨rfl, rfl, by rw [h, sgn_fits hf]⟩))
  · rw [if_neg hf]
    exact .inl ⟨by decide, by decide⟩
theorem tn_eq (b : Bool) : (tn b == 1) = b := by cases b <;> rfl
theorem arith_two (op : List UInt8) (a b : Int) : Agrees (twoF op 1 a [] 1 b []) (aint op (sgn (a % 4294967296)) (sgn (b % 4294967296))) (rel op (sgn (a % 4294967296) - sgn (b % 4294967296))) := by
  by_cases hg : (fit a && fit b) = true
  · obtain ⟨fa, fb⟩ := Bool.and_eq_true _ _ ▸ hg
    rw [sgn_fits fa, sgn_fits fb]
    have ht : twoF op 1 a [] 1 b [] = core op 1 a [] 1 b [] := by simp [twoF, good_int, fa, fb]
    rw [ht]
    by_cases o1 : op = [43]
    · subst o1; exact arith_fits (by simp [aint])
    by_cases o2 : op = [45]
    · subst o2; exact arith_fits (by simp [aint])
    by_cases o3 : op = [42]
    · subst o3; exact arith_fits (by simp [aint])
    by_cases o4 : op = [68, 73, 86]
    · subst o4
      simp only [core, aint, divF]
      by_cases hb : b ≤ 0
      · simp [hb, Agrees]
      · simp [hb, Agrees]
    by_cases o5 : op = [77, 79, 68]
    · subst o5
      simp only [core, aint, divF]
      by_cases hb : b ≤ 0
      · simp [hb, Agrees]
      · simp [hb, Agrees]
    by_cases h1 : op = [61]
    · subst h1; simp [core, rel, Agrees, tn_eq]
    by_cases h2 : op = [35]
    · subst h2; simp [core, rel, Agrees, tn_eq]
    by_cases h3 : op = [60]
    · subst h3; simp [core, rel, Agrees, tn_eq]
    by_cases h4 : op = [60, 61]
    · subst h4; simp [core, rel, Agrees, tn_eq]
    by_cases h5 : op = [62]
    · subst h5; simp [core, rel, Agrees, tn_eq]
    by_cases h6 : op = [62, 61]
    · subst h6; simp [core, rel, Agrees, tn_eq]
    have hc : core op 1 a [] 1 b [] = (0, 0, 120) := by simp [core, o1, o2, o3, o4, o5, h1, h2, h3, h4, h5, h6]
    rw [hc]
    exact .inl ⟨by decide, by decide⟩
  · rw [two_out op a b (by simpa using hg)]
    exact .inl ⟨by decide, by decide⟩
def isShift (name : List UInt8) : Bool := name == [76, 83, 76] || (name == [65, 83, 82] || name == [82, 79, 82])
theorem calls_one (name : List UInt8) (a b : Int) (hs : isShift name = false) (h : (callsF name [(1, a, ⟨#[]⟩)]).2.2 = 0) : call name a b = ((callsF name [(1, a, ⟨#[]⟩)]).2.1, true) := by
  by_cases hf : fit a = true
  · have hg : good 1 a [] = true := by rw [good_int]; exact hf
    have hc : callsF name [(1, a, ⟨#[]⟩)] = callC name 1 a := by
      have : callsF name [(1, a, ⟨#[]⟩)] = callF name 1 a [] := by simp [callsF, goodV, hg]
      rw [this, callF_plain _ (by decide)]
    rw [hc] at h ⊢
    have hsg := sgn_fits hf
    have hb := (fit_iff a).1 hf
    by_cases n1 : name = [65, 66, 83]
    · subst n1
      simp only [callC, call, hsg] at h ⊢
      simp at h ⊢
      unfold fitsF at h ⊢
      by_cases hm : fit (max a (-a)) = true
      · rw [if_pos hm]
        rw [← sgn_fits hm]
        simp only
        congr 2
        split <;> omega
      · rw [if_neg hm] at h; cases h
    by_cases n2 : name = [79, 68, 68]
    · subst n2
      simp [callC, call, tn]
      split <;> omega
    by_cases n3 : name = [67, 72, 82]
    · subst n3
      simp only [callC, call] at h ⊢
      simp at h ⊢
      by_cases hn : a < 0 ∨ 255 < a
      · rw [if_pos hn] at h; cases h
      · rw [if_neg hn]; simp; omega
    exfalso
    simp [callC, n1, n2, n3] at h
  · exfalso
    have hg : good 1 a [] = false := by rw [good_int]; simpa using hf
    simp [callsF, goodV, hg] at h
theorem calls_two (name : List UInt8) (a b : Int) (hs : isShift name = true) (h : (callsF name [(1, a, ⟨#[]⟩), (1, b, ⟨#[]⟩)]).2.2 = 0) : call name a b = ((callsF name [(1, a, ⟨#[]⟩), (1, b, ⟨#[]⟩)]).2.1, true) := by
  by_cases hf : (fit a && fit b) = true
  · obtain ⟨fa, fb⟩ := Bool.and_eq_true _ _ ▸ hf
    have hc : callsF name [(1, a, ⟨#[]⟩), (1, b, ⟨#[]⟩)] = shiftF name (a % 4294967296) (b % 4294967296) := by simp [callsF, goodV, good_int, fa, fb]
    rw [hc] at h ⊢
    simp only [isShift, Bool.or_eq_true, beq_iff_eq] at hs
    rcases hs with rfl | rfl | rfl <;> simp [shiftF, call]
  · exfalso
    have hg : (goodV (1, a, ⟨#[]⟩) && goodV (1, b, ⟨#[]⟩)) = false := by simpa [goodV, good_int] using hf
    have : callsF name [(1, a, ⟨#[]⟩), (1, b, ⟨#[]⟩)] = (0, 0, 120) := by
      unfold callsF
      rw [if_neg]
      simpa using hg
    rw [this] at h
    cases h
end Sp
end Go.Proofs.Ythcpedonpiihnaa
