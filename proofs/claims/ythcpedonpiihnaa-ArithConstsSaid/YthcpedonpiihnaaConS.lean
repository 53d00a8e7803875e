/- What the table tells: what lies under a key answers as the plain definition, and where nothing lies the plain definition tells nothing. Conditions: both values are constants. -/
import Derived.Test.YthcpedonpiihnaaConR
import Derived.Test.YthcpedonpiihnaaGoodW
namespace Go.Proofs.Ythcpedonpiihnaa
set_option linter.all false
open Go.RowKit
namespace Sp
/-- an operation of two values, by forms, numbers and texts -/
def core (op : List UInt8) (fa na : Int) (ta : List UInt8) (fb nb : Int) (tb : List UInt8) : Int × Int × Int :=
  if fa = 1 ∧ fb = 1 ∧ op = [43] then fitsF (na + nb)
  else if fa = 1 ∧ fb = 1 ∧ op = [45] then fitsF (na - nb)
  else if fa = 1 ∧ fb = 1 ∧ op = [42] then fitsF (na * nb)
  else if fa = 1 ∧ fb = 1 ∧ op = [68, 73, 86] then divF na nb true
  else if fa = 1 ∧ fb = 1 ∧ op = [77, 79, 68] then divF na nb false
  else if fa = 4 ∧ fb = 4 ∧ op = [43] then (4, bits .or .u32 na nb, 0)
  else if fa = 4 ∧ fb = 4 ∧ op = [45] then (4, bits .andNot .u32 na nb, 0)
  else if fa = 4 ∧ fb = 4 ∧ op = [42] then (4, bits .and .u32 na nb, 0)
  else if fa = 4 ∧ fb = 4 ∧ op = [47] then (4, bits .xor .u32 na nb, 0)
  else if fa = 1 ∧ fb = 4 ∧ op = [73, 78] then inF na nb
  else if fa = fb ∧ 1 ≤ fa ∧ fa ≤ 6 ∧ (op = [61] ∨ op = [35] ∨ ((op = [60] ∨ op = [60, 61] ∨ op = [62] ∨ op = [62, 61]) ∧ (fa = 1 ∨ fa = 3 ∨ fa = 6))) then
    (2, tn (rel op (if fa = 6 then Lib.compareBytes ta tb else na - nb)).1, 0)
  else if fa = 2 ∧ fb = 2 ∧ op = [38] then (2, tn (boolF [38] na nb), 0)
  else if fa = 2 ∧ fb = 2 ∧ op = [79, 82] then (2, tn (boolF [79, 82] na nb), 0)
  else (0, 0, 120)
theorem good_bd {f n : Int} {t : List UInt8} (h : good f n t = true) : -4294967296 ≤ n ∧ n < 4294967297 := by
  unfold good at h
  split at h
  · simp at h; omega
  · split at h
    · cases h
    · split at h
      · have := (fit_iff _).1 h; omega
      · split at h
        · simp at h; omega
        · split at h
          · simp at h; omega
          · split at h
            · simp at h; omega
            · simp at h; omega
theorem good_1 {n : Int} {t : List UInt8} (h : good 1 n t = true) : -2147483648 ≤ n ∧ n < 2147483648 := by
  unfold good at h
  split at h
  · omega
  · split at h
    · cases h
    · simp at h; exact (fit_iff _).1 h
theorem good_2 {n : Int} {t : List UInt8} (h : good 2 n t = true) : n = 0 ∨ n = 1 := by
  unfold good at h
  split at h
  · omega
  · split at h
    · cases h
    · simpa using h
theorem good_4 {n : Int} {t : List UInt8} (h : good 4 n t = true) : 0 ≤ n ∧ n < 4294967296 := by
  unfold good at h
  split at h
  · omega
  · split at h
    · cases h
    · simpa using h
end Sp
theorem eg_ints (args : Array Value) (w : World) : (callFunc 96 args).run Try.prog w = .ok (.enter 96 args) w := by kernel_rfl
theorem eg_sets (args : Array Value) (w : World) : (callFunc 104 args).run Try.prog w = .ok (.enter 104 args) w := by kernel_rfl
theorem eg_inw (args : Array Value) (w : World) : (callFunc 109 args).run Try.prog w = .ok (.enter 109 args) w := by kernel_rfl
theorem eg_rels (args : Array Value) (w : World) : (callFunc 116 args).run Try.prog w = .ok (.enter 116 args) w := by kernel_rfl
theorem eg_bools (args : Array Value) (w : World) : (callFunc 52 args).run Try.prog w = .ok (.enter 52 args) w := by kernel_rfl
theorem IsFn.calls {W : World} {fa na fb nb : Int} {op ta tb : ByteArray} {v : Value} (h : IsFn W (ky fa fb op) v) (ga : Sp.good fa na ta.data.toList = true) (gb : Sp.good fb nb tb.data.toList = true)
    (hr : ∀ f s g, (s, g) ∈ relsAt → ky fa fb op = ky f f s → op.data.toList = [61] ∨ op.data.toList = [35] ∨ fa = 1 ∨ fa = 3 ∨ fa = 6) :
    ∃ fn caps, v = .func (.func fn) #[] caps ∧ (∀ args w, (callFunc fn args).run Try.prog w = .ok (.enter fn args) w) ∧ ∀ W', Still W W' → Calls Try.prog fn (#[.agg #[.int .i64 fa, .int .i64 na, .string ta], .agg #[.int .i64 fb, .int .i64 nb, .string tb]] ++ caps) W' fun e w' =>
      e = .returned (Sp.R (Sp.core op.data.toList fa na ta.data.toList fb nb tb.data.toList)) ∧ ∃ g, w' = more W' g := by
  have ba := Sp.good_bd ga
  have bb := Sp.good_bd gb
  rcases h with ⟨s, g, h1, h2, p, h3, rfl, h4⟩ | ⟨s, g, h1, h2, p, h3, rfl, h4⟩ | ⟨h2, rfl⟩ | ⟨f, s, g, h1, h2, h5, h6, p, h3, rfl, h4⟩ | ⟨s, g, h1, h2, p, h3, rfl, h4⟩
  · obtain ⟨rfl, rfl, rfl⟩ := ky_inj h2
    have xa := Sp.good_1 ga
    have xb := Sp.good_1 gb
    refine ⟨_, _, rfl, eg_ints, fun W' hs => ?_⟩
    have hp := hs.2 _ _ h4
    have hl := Nat.lt_of_lt_of_le h3 hs.1
    simp only [intsAt, List.mem_cons, List.not_mem_nil, or_false, Prod.mk.injEq] at h1
    rcases h1 with ⟨rfl, rfl⟩ | ⟨rfl, rfl⟩ | ⟨rfl, rfl⟩ | ⟨rfl, rfl⟩ | ⟨rfl, rfl⟩
    · exact (ints11_2 p 1 1 na nb ta tb W' xa xb hp hl).mono fun e w' h => by simpa [Sp.core] using h
    · exact (ints11_3 p 1 1 na nb ta tb W' xa xb hp hl).mono fun e w' h => by simpa [Sp.core] using h
    · exact (ints11_4 p 1 1 na nb ta tb W' xa xb hp hl).mono fun e w' h => by simpa [Sp.core] using h
    · exact (ints11_5 p 1 1 na nb ta tb W' xa xb hp hl).mono fun e w' h => by simpa [Sp.core] using h
    · exact (ints11_6 p 1 1 na nb ta tb W' xa xb hp hl).mono fun e w' h => by simpa [Sp.core] using h
  · obtain ⟨rfl, rfl, rfl⟩ := ky_inj h2
    have xa := Sp.good_4 ga
    have xb := Sp.good_4 gb
    refine ⟨_, _, rfl, eg_sets, fun W' hs => ?_⟩
    have hp := hs.2 _ _ h4
    have hl := Nat.lt_of_lt_of_le h3 hs.1
    simp only [setsAt, List.mem_cons, List.not_mem_nil, or_false, Prod.mk.injEq] at h1
    rcases h1 with ⟨rfl, rfl⟩ | ⟨rfl, rfl⟩ | ⟨rfl, rfl⟩ | ⟨rfl, rfl⟩
    · exact (sets11_2 p 4 4 na nb ta tb W' xa.1 xa.2 xb.1 xb.2 hp hl).mono fun e w' h => by simpa [Sp.core] using h
    · exact (sets11_3 p 4 4 na nb ta tb W' xa.1 xa.2 xb.1 xb.2 hp hl).mono fun e w' h => by simpa [Sp.core] using h
    · exact (sets11_4 p 4 4 na nb ta tb W' xa.1 xa.2 xb.1 xb.2 hp hl).mono fun e w' h => by simpa [Sp.core] using h
    · exact (sets11_5 p 4 4 na nb ta tb W' xa.1 xa.2 xb.1 xb.2 hp hl).mono fun e w' h => by simpa [Sp.core] using h
  · obtain ⟨rfl, rfl, rfl⟩ := ky_inj h2
    have xb := Sp.good_4 gb
    exact ⟨_, _, rfl, eg_inw, fun W' hs => (sets6_any 1 4 na nb ta tb W' xb.1 xb.2).mono fun e w' h => by simpa [Sp.core] using h⟩
  · obtain ⟨rfl, rfl, rfl⟩ := ky_inj h2
    have hal := hr _ _ _ h1 rfl
    refine ⟨_, _, rfl, eg_rels, fun W' hs => ?_⟩
    have hp := hs.2 _ _ h4
    have hl := Nat.lt_of_lt_of_le h3 hs.1
    simp only [relsAt, List.mem_cons, List.not_mem_nil, or_false, Prod.mk.injEq] at h1
    have hc : ∀ o : List UInt8, o ≠ [43] → o ≠ [45] → o ≠ [42] → o ≠ [47] → o ≠ [68, 73, 86] → o ≠ [77, 79, 68] → o ≠ [73, 78] →
        (o = [61] ∨ o = [35] ∨ ((o = [60] ∨ o = [60, 61] ∨ o = [62] ∨ o = [62, 61]) ∧ (fb = 1 ∨ fb = 3 ∨ fb = 6))) →
        Sp.core o fb na ta.data.toList fb nb tb.data.toList = (2, Sp.tn (Sp.rel o (if fb = 6 then Lib.compareBytes ta.data.toList tb.data.toList else na - nb)).1, 0) := by
      intro o n1 n2 n3 n4 n5 n6 n7 ho
      simp only [Sp.core, n1, n2, n3, n4, n5, n6, n7, and_false, if_false]
      rw [if_pos ⟨trivial, h5, h6, ho⟩]
    rcases h1 with ⟨rfl, rfl⟩ | ⟨rfl, rfl⟩ | ⟨rfl, rfl⟩ | ⟨rfl, rfl⟩ | ⟨rfl, rfl⟩ | ⟨rfl, rfl⟩
    · exact (rel7_1 p fb fb na nb ta tb W' ba bb hp hl).mono fun e w' h => by rw [← hc [61] (by decide) (by decide) (by decide) (by decide) (by decide) (by decide) (by decide) (by simpa using hal)] at h; exact h
    · exact (rel7_2 p fb fb na nb ta tb W' ba bb hp hl).mono fun e w' h => by rw [← hc [35] (by decide) (by decide) (by decide) (by decide) (by decide) (by decide) (by decide) (by simpa using hal)] at h; exact h
    · exact (rel7_3 p fb fb na nb ta tb W' ba bb hp hl).mono fun e w' h => by rw [← hc [60] (by decide) (by decide) (by decide) (by decide) (by decide) (by decide) (by decide) (by simpa using hal)] at h; exact h
    · exact (rel7_4 p fb fb na nb ta tb W' ba bb hp hl).mono fun e w' h => by rw [← hc [60, 61] (by decide) (by decide) (by decide) (by decide) (by decide) (by decide) (by decide) (by simpa using hal)] at h; exact h
    · exact (rel7_5 p fb fb na nb ta tb W' ba bb hp hl).mono fun e w' h => by rw [← hc [62] (by decide) (by decide) (by decide) (by decide) (by decide) (by decide) (by decide) (by simpa using hal)] at h; exact h
    · exact (rel7_6 p fb fb na nb ta tb W' ba bb hp hl).mono fun e w' h => by rw [← hc [62, 61] (by decide) (by decide) (by decide) (by decide) (by decide) (by decide) (by decide) (by simpa using hal)] at h; exact h
  · obtain ⟨rfl, rfl, rfl⟩ := ky_inj h2
    have xa := Sp.good_2 ga
    have xb := Sp.good_2 gb
    refine ⟨_, _, rfl, eg_bools, fun W' hs => ?_⟩
    have hp := hs.2 _ _ h4
    have hl := Nat.lt_of_lt_of_le h3 hs.1
    simp only [boolsAt, List.mem_cons, List.not_mem_nil, or_false, Prod.mk.injEq] at h1
    rcases h1 with ⟨rfl, rfl⟩ | ⟨rfl, rfl⟩
    · exact (two3_1 p 2 2 na nb ta tb W' xa xb hp hl).mono fun e w' h => by simpa [Sp.core] using h
    · exact (two3_2 p 2 2 na nb ta tb W' xa xb hp hl).mono fun e w' h => by simpa [Sp.core] using h
/-- the keys of the whole table -/
def AllKeys (k : Value) : Prop :=
  (∃ s g, (s, g) ∈ intsAt ∧ k = ky 1 1 s) ∨ (∃ s g, (s, g) ∈ setsAt ∧ k = ky 4 4 s) ∨ k = ky 1 4 ⟨#[73, 78]⟩ ∨ RelAll k ∨ ∃ s g, (s, g) ∈ boolsAt ∧ k = ky 2 2 s
theorem core_none {fa fb na nb : Int} {op : ByteArray} {ta tb : List UInt8} (h : ¬ AllKeys (ky fa fb op)) : Sp.core op.data.toList fa na ta fb nb tb = (0, 0, 120) := by
  have hb : ∀ l : List UInt8, op.data.toList = l → op = ⟨l.toArray⟩ := fun l e => bytes_ext (by simpa using e)
  have hi : ∀ (l : List UInt8) g, ((⟨l.toArray⟩ : ByteArray), g) ∈ intsAt → ¬ (fa = 1 ∧ fb = 1 ∧ op.data.toList = l) := fun l g hm ⟨a, b, c⟩ => h (.inl ⟨_, g, hm, by rw [a, b, hb l c]⟩)
  have hs : ∀ (l : List UInt8) g, ((⟨l.toArray⟩ : ByteArray), g) ∈ setsAt → ¬ (fa = 4 ∧ fb = 4 ∧ op.data.toList = l) := fun l g hm ⟨a, b, c⟩ => h (.inr (.inl ⟨_, g, hm, by rw [a, b, hb l c]⟩))
  have hbo : ∀ (l : List UInt8) g, ((⟨l.toArray⟩ : ByteArray), g) ∈ boolsAt → ¬ (fa = 2 ∧ fb = 2 ∧ op.data.toList = l) := fun l g hm ⟨a, b, c⟩ => h (.inr (.inr (.inr (.inr ⟨_, g, hm, by rw [a, b, hb l c]⟩))))
  have hin : ¬ (fa = 1 ∧ fb = 4 ∧ op.data.toList = [73, 78]) := fun ⟨a, b, c⟩ => h (.inr (.inr (.inl (by rw [a, b, hb _ c]))))
  have hre : ∀ (l : List UInt8) g n, MapEntry.mk (.string ⟨l.toArray⟩) (.func (.func g) #[] #[]) n ∈ relEs.toList → fa = fb → 1 ≤ fa → fa ≤ 6 → (l = [61] ∨ l = [35] ∨ fa = 1 ∨ fa = 3 ∨ fa = 6) → ¬ (op.data.toList = l) := fun l g n hm a b c d e =>
    h (.inr (.inr (.inr (.inl ⟨_, hm, _, fa, rfl, b, c, by simpa [allowed, or_assoc] using d, by rw [← a, hb l e]⟩))))
  unfold Sp.core
  rw [if_neg (hi [43] 97 (by simp [intsAt])), if_neg (hi [45] 98 (by simp [intsAt])), if_neg (hi [42] 99 (by simp [intsAt])), if_neg (hi [68, 73, 86] 100 (by simp [intsAt])), if_neg (hi [77, 79, 68] 102 (by simp [intsAt])),
    if_neg (hs [43] 105 (by simp [setsAt])), if_neg (hs [45] 106 (by simp [setsAt])), if_neg (hs [42] 107 (by simp [setsAt])), if_neg (hs [47] 108 (by simp [setsAt])), if_neg hin, if_neg ?_, if_neg (hbo [38] 50 (by simp [boolsAt])), if_neg (hbo [79, 82] 51 (by simp [boolsAt]))]
  rintro ⟨a, b, c, d⟩
  rcases d with d | d | ⟨d | d | d | d, f⟩
  · exact hre [61] 110 0 (by simp [relEs]) a b c (.inl rfl) d
  · exact hre [35] 111 1 (by simp [relEs]) a b c (.inr (.inl rfl)) d
  · exact hre [60] 112 2 (by simp [relEs]) a b c (.inr (.inr f)) d
  · exact hre [60, 61] 113 3 (by simp [relEs]) a b c (.inr (.inr f)) d
  · exact hre [62] 114 4 (by simp [relEs]) a b c (.inr (.inr f)) d
  · exact hre [62, 61] 115 5 (by simp [relEs]) a b c (.inr (.inr f)) d
end Go.Proofs.Ythcpedonpiihnaa
