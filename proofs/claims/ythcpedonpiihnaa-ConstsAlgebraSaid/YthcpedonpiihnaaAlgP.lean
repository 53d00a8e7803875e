/- Sets of constants: what differences, what is in them, by plain definition. No program in sight. -/
import Derived.Test.YthcpedonpiihnaaConQ
import Derived.Test.YthcpedonpiihnaaSetP
import Derived.Test.YthcpedonpiihnaaOneW
namespace Go.Proofs.Ythcpedonpiihnaa
set_option linter.all false
open Go.RowKit
namespace Sp
theorem good_set {n : Int} (h0 : 0 ≤ n) (h1 : n < 4294967296) : good 4 n [] = true := by simp [good]; omega
theorem two_sub {a b : Int} (a0 : 0 ≤ a) (a1 : a < 4294967296) (b0 : 0 ≤ b) (b1 : b < 4294967296) : twoF [45] 4 a [] 4 b [] = (4, bits .andNot .u32 a b, 0) := by
  simp [twoF, good_set a0 a1, good_set b0 b1, core]
theorem two_and {a b : Int} (a0 : 0 ≤ a) (a1 : a < 4294967296) (b0 : 0 ≤ b) (b1 : b < 4294967296) : twoF [42] 4 a [] 4 b [] = (4, bits .and .u32 a b, 0) := by
  simp [twoF, good_set a0 a1, good_set b0 b1, core]
theorem two_or {a b : Int} (a0 : 0 ≤ a) (a1 : a < 4294967296) (b0 : 0 ≤ b) (b1 : b < 4294967296) : twoF [43] 4 a [] 4 b [] = (4, bits .or .u32 a b, 0) := by
  simp [twoF, good_set a0 a1, good_set b0 b1, core]
theorem two_xor {a b : Int} (a0 : 0 ≤ a) (a1 : a < 4294967296) (b0 : 0 ≤ b) (b1 : b < 4294967296) : twoF [47] 4 a [] 4 b [] = (4, bits .xor .u32 a b, 0) := by
  simp [twoF, good_set a0 a1, good_set b0 b1, core]
theorem one_not {b : Int} (b0 : 0 ≤ b) (b1 : b < 4294967296) : oneF [45] 4 b [] = (4, 4294967295 - b, 0) := by
  simp [oneF, good_set b0 b1]
theorem two_in_bad {n a : Int} (hn : fit n = false) : twoF [73, 78] 1 n [] 4 a [] = (0, 0, 120) := by
  simp [twoF, good, hn]
theorem two_in {n a : Int} (a0 : 0 ≤ a) (a1 : a < 4294967296) (hn : fit n = true) : twoF [73, 78] 1 n [] 4 a [] = inF n a := by
  have : good 1 n [] = true := by simpa [good] using hn
  simp [twoF, this, good_set a0 a1, core]
theorem sub_and (a b : Int) (a0 : 0 ≤ a) (a1 : a < 4294967296) (b0 : 0 ≤ b) (b1 : b < 4294967296) : bits .and .u32 a (4294967295 - b) = bits .andNot .u32 a b := by
  rw [u32_and a _ a0 a1 (by omega) (by omega), u32_andNot a b a0 a1 b0 b1]
  congr 3
  omega
theorem sub_bd (a b : Int) (a0 : 0 ≤ a) (a1 : a < 4294967296) (b0 : 0 ≤ b) (b1 : b < 4294967296) : 0 ≤ bits .andNot .u32 a b ∧ bits .andNot .u32 a b < 4294967296 := by
  have h2 : a.toNat &&& (4294967295 - b.toNat) < 2 ^ 32 := Nat.and_lt_two_pow _ (by omega)
  rw [u32_andNot a b a0 a1 b0 b1]
  omega
theorem xor_sub (a b : Int) (a0 : 0 ≤ a) (a1 : a < 4294967296) (b0 : 0 ≤ b) (b1 : b < 4294967296) : bits .or .u32 (bits .andNot .u32 a b) (bits .andNot .u32 b a) = bits .xor .u32 a b := by
  obtain ⟨c0, c1⟩ := sub_bd a b a0 a1 b0 b1
  obtain ⟨d0, d1⟩ := sub_bd b a b0 b1 a0 a1
  rw [u32_or _ _ c0 c1 d0 d1, u32_xor a b a0 a1 b0 b1, u32_andNot a b a0 a1 b0 b1, u32_andNot b a b0 b1 a0 a1, Int.toNat_natCast, Int.toNat_natCast]
  congr 1
  apply Nat.eq_of_testBit_eq
  intro i
  have ha : a.toNat < 2 ^ 32 := by omega
  have hb : b.toNat < 2 ^ 32 := by omega
  have e1 : 4294967295 - b.toNat = 2 ^ 32 - (b.toNat + 1) := by omega
  have e2 : 4294967295 - a.toNat = 2 ^ 32 - (a.toNat + 1) := by omega
  rw [Nat.testBit_or, Nat.testBit_and, Nat.testBit_and, Nat.testBit_xor, e1, e2, Nat.testBit_two_pow_sub_succ hb, Nat.testBit_two_pow_sub_succ ha]
  by_cases hi : i < 32
  · simp only [hi, decide_true, Bool.true_and]
    cases a.toNat.testBit i <;> cases b.toNat.testBit i <;> rfl
  · have h1 : a.toNat.testBit i = false := Nat.testBit_lt_two_pow (Nat.lt_of_lt_of_le ha (Nat.pow_le_pow_right (by omega) (by omega)))
    have h2 : b.toNat.testBit i = false := Nat.testBit_lt_two_pow (Nat.lt_of_lt_of_le hb (Nat.pow_le_pow_right (by omega) (by omega)))
    simp [h1, h2]
/-- a set of one bit, and that bit in another set -/
theorem one_in (a : Int) (k : Nat) (hk : k < 32) (a0 : 0 ≤ a) (a1 : a < 4294967296) : (tn (a / 2 ^ k % 2 == 1) == 1) = (bits .and .u32 (put 0 k 1 1) a != 0) := by
  have hp := put_u32 0 k hk (by omega) (by omega)
  have e1 : put 0 (k : Int) 1 1 = ((2 ^ k : Nat) : Int) := by
    have := or_put 0 k hk (by omega) (by omega)
    rw [← this, u32_or 0 (2 ^ k) (by omega) (by omega) (by have := Sp.pow_bd k (by omega); omega) (Sp.pow_lt k hk)]
    have e2 : ((2 : Int) ^ k).toNat = 2 ^ k := by
      have : ((2 : Int) ^ k) = ((2 ^ k : Nat) : Int) := by simp
      rw [this, Int.toNat_natCast]
    rw [e2]; simp
  rw [u32_and _ a hp.1 hp.2 a0 a1, e1, Int.toNat_natCast]
  obtain ⟨n, rfl⟩ := Int.eq_ofNat_of_zero_le a0
  rw [Int.toNat_natCast]
  have e3 : ((n : Int) / 2 ^ k % 2) = ((n / 2 ^ k % 2 : Nat) : Int) := by simp
  have e4 : 2 ^ k &&& n = if n.testBit k then 2 ^ k else 0 := by
    apply Nat.eq_of_testBit_eq
    intro i
    rw [Nat.testBit_and, Nat.testBit_two_pow]
    by_cases e : k = i
    · subst e
      cases h : n.testBit k <;> simp
    · cases h : n.testBit k <;> simp [e, Nat.testBit_two_pow]
  rw [e3, e4, Nat.testBit_eq_decide_div_mod_eq]
  have hpos : 0 < 2 ^ k := Nat.two_pow_pos k
  by_cases h : n / 2 ^ k % 2 = 1
  · simp [h, tn]; exact Int.ne_of_gt (Sp.pow_bd k (by omega)).1
  · have : n / 2 ^ k % 2 = 0 := by omega
    simp [this, tn]
end Sp
end Go.Proofs.Ythcpedonpiihnaa
