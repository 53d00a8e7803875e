/- A set of pairs, by plain definition, and one more bit in a word. No program in sight. -/
import Derived.Test.YthcpedonpiihnaaNumW
import Derived.Test.YthcpedonpiihnaaConP
namespace Go.Proofs.Ythcpedonpiihnaa
set_option linter.unusedSimpArgs false
set_option linter.unusedVariables false
open Go.RowKit
theorem or_bit (x k : Nat) (h : x.testBit k = false) : x ||| 2 ^ k = x + 2 ^ k := by
  have hr : x % 2 ^ (k + 1) < 2 ^ k := by
    rw [Nat.testBit_eq_decide_div_mod_eq] at h
    have h' : x / 2 ^ k % 2 = 0 := by
      have : ¬ (x / 2 ^ k % 2 = 1) := by simpa using h
      omega
    rw [Nat.pow_succ, Nat.mod_mul, h']
    have := Nat.mod_lt x (Nat.two_pow_pos k)
    omega
  have hx : x = (x / 2 ^ (k + 1)) <<< (k + 1) + x % 2 ^ (k + 1) := by
    rw [Nat.shiftLeft_eq, Nat.mul_comm]; exact (Nat.div_add_mod x (2 ^ (k + 1))).symm
  generalize x / 2 ^ (k + 1) = q at hx
  generalize hrr : x % 2 ^ (k + 1) = r at *
  have h1 : (1 <<< k + r : Nat) = 1 <<< k ||| r := Nat.shiftLeft_add_eq_or_of_lt hr 1
  have h2 : 2 ^ k + r < 2 ^ (k + 1) := by rw [Nat.pow_succ]; omega
  have h3 := Nat.shiftLeft_add_eq_or_of_lt h2 q
  have h4 := Nat.shiftLeft_add_eq_or_of_lt (show r < 2 ^ (k + 1) by rw [Nat.pow_succ]; omega) q
  rw [Nat.one_shiftLeft] at h1
  rw [hx, h4, Nat.or_assoc, Nat.or_comm r, ← h1, ← h3, ← h4]
  omega
theorem or_same (x k : Nat) (h : x.testBit k = true) : x ||| 2 ^ k = x := by
  apply Nat.eq_of_testBit_eq
  intro i
  rw [Nat.testBit_or, Nat.testBit_two_pow]
  by_cases e : k = i
  · subst e; simp [h]
  · simp [e]
theorem bit_of_get (s : Int) (k : Nat) (hk : k < 32) (h0 : 0 ≤ s) (h1 : s < 4294967296) : Sp.get s k 1 = if s.toNat.testBit k then 1 else 0 := by
  obtain ⟨n, rfl⟩ := Int.eq_ofNat_of_zero_le h0
  have e : Sp.get n k 1 = (n : Int) / 2 ^ k % 2 := by
    unfold Sp.get Sp.mayB
    rw [if_pos (by simp; omega)]; simp
  rw [e, Int.toNat_natCast, Nat.testBit_eq_decide_div_mod_eq]
  have e2 : ((n : Int) / 2 ^ k % 2) = ((n / 2 ^ k % 2 : Nat) : Int) := by simp
  rw [e2]
  by_cases h : n / 2 ^ k % 2 = 1
  · simp [h]
  · have : n / 2 ^ k % 2 = 0 := by omega
    simp [this]
theorem or_put (s : Int) (k : Nat) (hk : k < 32) (h0 : 0 ≤ s) (h1 : s < 4294967296) : bits .or .u32 s (2 ^ k) = Sp.put s k 1 1 := by
  have hp := Sp.pow_bd k (by omega)
  have hl := Sp.pow_lt k hk
  rw [u32_or s (2 ^ k) h0 h1 (by omega) hl]
  unfold Sp.put
  rw [if_pos (by simp [Sp.mayB]; omega), bit_of_get s k hk h0 h1]
  obtain ⟨n, rfl⟩ := Int.eq_ofNat_of_zero_le h0
  have e2 : ((2 : Int) ^ k).toNat = 2 ^ k := by
    have : ((2 : Int) ^ k) = ((2 ^ k : Nat) : Int) := by simp
    rw [this, Int.toNat_natCast]
  have e3 : ((2 ^ k : Nat) : Int) = (2 : Int) ^ k := by simp
  rw [e2, Int.toNat_natCast, Int.toNat_natCast]
  cases hb : n.testBit k
  · rw [or_bit n k hb]
    have hlt : n + 2 ^ k < 2 ^ 32 := by
      rw [← or_bit n k hb]
      exact Nat.or_lt_two_pow (by omega) (Nat.pow_lt_pow_right (by omega) hk)
    simp only [Bool.false_eq_true, if_false]
    rw [show ((1 : Int) % 2 ^ (1 : Int).toNat) = 1 from by decide, Int.natCast_add, e3]
    have : ((n + 2 ^ k : Nat) : Int) = (n : Int) + 2 ^ k := by rw [Int.natCast_add, e3]
    omega
  · rw [or_same n k hb]
    simp only [if_true]
    rw [show ((1 : Int) % 2 ^ (1 : Int).toNat) = 1 from by decide]
    omega
namespace Sp
def bad (a b : Int) : Bool := decide (min a b < 0) || decide (31 < max a b)
/-- c bits more, from a on -/
def fill (a : Nat) : Nat → Int → Int
  | 0, w => w
  | c + 1, w => put (fill a c w) ((a + c : Nat) : Int) 1 1
def setL : List (Int × Int) → Int → Int × Int × Int
  | [], w => (4, w, 0)
  | p :: t, w => if bad p.1 p.2 = true then (0, 0, 91) else setL t (fill p.1.toNat (p.2 + 1 - p.1).toNat w)
theorem put_u32 (s : Int) (k : Nat) (hk : k < 32) (h0 : 0 ≤ s) (h1 : s < 4294967296) : 0 ≤ put s k 1 1 ∧ put s k 1 1 < 4294967296 := by
  unfold put
  rw [if_pos (by simp [mayB]; omega)]
  omega
theorem fill_bd (a : Nat) (c : Nat) (s : Int) (h : a + c ≤ 32) (h0 : 0 ≤ s) (h1 : s < 4294967296) : 0 ≤ fill a c s ∧ fill a c s < 4294967296 := by
  induction c with
  | zero => exact ⟨h0, h1⟩
  | succ c ih =>
    have := ih (by omega)
    exact put_u32 _ _ (by omega) this.1 this.2
end Sp
end Go.Proofs.Ythcpedonpiihnaa
