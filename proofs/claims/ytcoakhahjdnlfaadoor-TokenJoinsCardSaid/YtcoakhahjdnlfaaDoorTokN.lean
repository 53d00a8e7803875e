/- The value of a row of digits, read from the left: how it goes on from a place, and that it only grows. No program in sight. -/
import Derived.Test.YtcoakhahjdnlfaaDoorTokP
namespace Go.Proofs.YtcoakhahjdnlfaaDoor
set_option linter.all false
namespace Tk
def va (B acc : Nat) (l : List UInt8) : Nat := l.foldl (fun n c => n * B + dig c) acc
theorem va_cons (B acc : Nat) (c : UInt8) (l : List UInt8) : va B acc (c :: l) = va B (acc * B + dig c) l := rfl
theorem va_nil (B acc : Nat) : va B acc [] = acc := rfl
theorem val_eq (B : Nat) (l : List UInt8) : val B l = va B 0 l := rfl
theorem va_ge (B : Nat) (hB : 1 ≤ B) (l : List UInt8) : ∀ acc, acc ≤ va B acc l := by
  induction l with
  | nil => intro acc; exact Nat.le_refl _
  | cons c l ih =>
    intro acc
    rw [va_cons]
    have h1 := ih (acc * B + dig c)
    have h2 : acc * 1 ≤ acc * B := Nat.mul_le_mul_left _ hB
    omega
theorem va_range {B M : Nat} (hB : 1 ≤ B) {l : List UInt8} {acc : Nat} (h : M < acc) : M < va B acc l := Nat.lt_of_lt_of_le h (va_ge B hB l acc)
theorem hexa_cases {c : UInt8} (h : hexa c = true) : (48 ≤ c.toNat ∧ c.toNat ≤ 57 ∧ dig c = c.toNat - 48) ∨ (65 ≤ c.toNat ∧ c.toNat ≤ 70 ∧ dig c = c.toNat - 55) := by
  simp only [hexa, digit, Bool.or_eq_true, Bool.and_eq_true, decide_eq_true_eq] at h
  unfold dig
  rcases h with ⟨h1, h2⟩ | ⟨h1, h2⟩
  · left; rw [if_pos h2]; exact ⟨h1, h2, rfl⟩
  · right; rw [if_neg (by omega)]; exact ⟨h1, h2, rfl⟩
theorem digit_cases {c : UInt8} (h : digit c = true) : 48 ≤ c.toNat ∧ c.toNat ≤ 57 ∧ dig c = c.toNat - 48 := by
  simp only [digit, Bool.and_eq_true, decide_eq_true_eq] at h
  unfold dig
  rw [if_pos h.2]; exact ⟨h.1, h.2, rfl⟩
theorem hexa_le {c : UInt8} (h : hexa c = true) : c.toNat ≤ 70 := by rcases hexa_cases h with h | h <;> omega
theorem digit_le {c : UInt8} (h : digit c = true) : c.toNat ≤ 57 := (digit_cases h).2.1
/-- a letter's bits with the bit 32 set -/
theorem low_letter {c : Nat} (h1 : 65 ≤ c) (h2 : c ≤ 70) : c ||| 32 = c + 32 := by
  have : c = 65 ∨ c = 66 ∨ c = 67 ∨ c = 68 ∨ c = 69 ∨ c = 70 := by omega
  rcases this with rfl | rfl | rfl | rfl | rfl | rfl <;> rfl
theorem all_drop {p : UInt8 → Bool} {l : List UInt8} (h : ∀ c ∈ l, p c = true) (k : Nat) : ∀ c ∈ l.drop k, p c = true := fun c hc => h c (List.mem_of_mem_drop hc)
end Tk
end Go.Proofs.YtcoakhahjdnlfaaDoor
