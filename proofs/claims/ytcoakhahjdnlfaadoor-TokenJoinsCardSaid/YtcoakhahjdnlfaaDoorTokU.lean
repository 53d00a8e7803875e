/- The value of a row of digits, read from the left: how it goes on from a place, and that it only grows. No program in sight. The tables of bytes and the words that the token package begins with, by plain definition. No program in sight. The signs in their order: the first one that a text begins with is the sign's token. No program in sight. -/
import Derived.Test.YtcoakhahjdnlfaaDoorTokP
import Derived.Lib.AsciiSet
import Derived.Lib.FieldsLaws
namespace Go.Proofs.YtcoakhahjdnlfaaDoor
set_option linter.all false
namespace Tk
def va (B acc : Nat) (l : List UInt8) : Nat := l.foldl (fun n c => n * B + dig c) acc
theorem va_cons (B acc : Nat) (c : UInt8) (l : List UInt8) : va B acc (c :: l) = va B (acc * B + dig c) l := rfl
theorem va_nil (B acc : Nat) : va B acc [] = acc := rfl
theorem val_eq (B : Nat) (l : List UInt8) : val B l = va B 0 l := rfl
theorem va_ge (B : Nat) (hB : 1 ≤ B) (l : List UInt8) : ∀ acc, acc ≤ va B acc l := by
  induction l with
  | nil => intro acc; exact Nat.le_refl _
  | cons c l ih =>
    intro acc
    rw [va_cons]
    have h1 := ih (acc * B + dig c)
    have h2 : acc * 1 ≤ acc * B := Nat.mul_le_mul_left _ hB
    omega
theorem va_range {B M : Nat} (hB : 1 ≤ B) {l : List UInt8} {acc : Nat} (h : M < acc) : M < va B acc l := Nat.lt_of_lt_of_le h (va_ge B hB l acc)
theorem hexa_cases {c : UInt8} (h : hexa c = true) : (48 ≤ c.toNat ∧ c.toNat ≤ 57 ∧ dig c = c.toNat - 48) ∨ (65 ≤ c.toNat ∧ c.toNat ≤ 70 ∧ dig c = c.toNat - 55) := by
  simp only [hexa, digit, Bool.or_eq_true, Bool.and_eq_true, decide_eq_true_eq] at h
  unfold dig
  rcases h with ⟨h1, h2⟩ | ⟨h1, h2⟩
  · left; rw [if_pos h2]; exact ⟨h1, h2, rfl⟩
  · right; rw [if_neg (by omega)]; exact ⟨h1, h2, rfl⟩
theorem digit_cases {c : UInt8} (h : digit c = true) : 48 ≤ c.toNat ∧ c.toNat ≤ 57 ∧ dig c = c.toNat - 48 := by
  simp only [digit, Bool.and_eq_true, decide_eq_true_eq] at h
  unfold dig
  rw [if_pos h.2]; exact ⟨h.1, h.2, rfl⟩
theorem hexa_le {c : UInt8} (h : hexa c = true) : c.toNat ≤ 70 := by rcases hexa_cases h with h | h <;> omega
theorem digit_le {c : UInt8} (h : digit c = true) : c.toNat ≤ 57 := (digit_cases h).2.1
/-- a letter's bits with the bit 32 set -/
theorem low_letter {c : Nat} (h1 : 65 ≤ c) (h2 : c ≤ 70) : c ||| 32 = c + 32 := by
  have : c = 65 ∨ c = 66 ∨ c = 67 ∨ c = 68 ∨ c = 69 ∨ c = 70 := by omega
  rcases this with rfl | rfl | rfl | rfl | rfl | rfl <;> rfl
theorem all_drop {p : UInt8 → Bool} {l : List UInt8} (h : ∀ c ∈ l, p c = true) (k : Nat) : ∀ c ∈ l.drop k, p c = true := fun c hc => h c (List.mem_of_mem_drop hc)
end Tk
end Go.Proofs.YtcoakhahjdnlfaaDoor

namespace Go.Proofs.YtcoakhahjdnlfaaDoor
set_option linter.all false
namespace Tk
/-- the bytes from a to b -/
def rng (a b : Nat) : List UInt8 := (List.range' a (b + 1 - a)).map UInt8.ofNat
/-- the bytes of some ranges -/
def rngs (l : List (Nat × Nat)) : List UInt8 := l.flatMap fun r => rng r.1 r.2
theorem u8_all {p : UInt8 → Bool} (h : (List.range 256).all (fun n => p (UInt8.ofNat n)) = true) (c : UInt8) : p c = true := by
  have := List.all_eq_true.1 h c.toNat (List.mem_range.2 c.toNat_lt)
  simpa using this
theorem u8_eq {p q : UInt8 → Bool} (h : (List.range 256).all (fun n => p (UInt8.ofNat n) == q (UInt8.ofNat n)) = true) (c : UInt8) : p c = q c := eq_of_beq (u8_all (p := fun c => p c == q c) h c)
theorem tab_letter (c : UInt8) : (rngs [(97, 122), (65, 90)]).contains c = letter c := u8_eq (p := fun c => (rngs [(97, 122), (65, 90)]).contains c) (by decide +kernel) c
theorem tab_inside (c : UInt8) : (rngs [(97, 122), (65, 90), (48, 57)]).contains c = inside c := u8_eq (p := fun c => (rngs [(97, 122), (65, 90), (48, 57)]).contains c) (by decide +kernel) c
theorem tab_digit (c : UInt8) : (rngs [(48, 57)]).contains c = digit c := u8_eq (p := fun c => (rngs [(48, 57)]).contains c) (by decide +kernel) c
theorem tab_hexa (c : UInt8) : (rngs [(48, 57), (65, 70)]).contains c = hexa c := u8_eq (p := fun c => (rngs [(48, 57), (65, 70)]).contains c) (by decide +kernel) c
theorem rng_len (a b : Nat) : (rng a b).length = b + 1 - a := by simp [rng]
theorem rng_at (a b i : Nat) (h : a + i ≤ b) : (rng a b).take (i + 1) = (rng a b).take i ++ [UInt8.ofNat (a + i)] := by
  have : (rng a b)[i]? = some (UInt8.ofNat (a + i)) := by
    simp [rng, List.getElem?_range', show i < b + 1 - a by omega]
  rw [List.take_succ, this]; rfl
theorem keys_nodup : keys.Nodup := by decide +kernel
theorem keys_len : keys.length = 33 := by decide +kernel
end Tk
end Go.Proofs.YtcoakhahjdnlfaaDoor

namespace Go.Proofs.YtcoakhahjdnlfaaDoor
set_option linter.all false
namespace Tk
def sgs : List (List UInt8) := signs2 ++ signs1.map fun c => [c]
/-- does a text begin so? -/
def beg (l w : List UInt8) : Bool := l.take w.length == w
theorem find_self (a : List UInt8) (L : List (List UInt8)) : L.find? (fun w => a == w) = if a ∈ L then some a else none := by
  induction L with
  | nil => simp
  | cons b L ih =>
    rw [List.find?_cons]
    by_cases h : a = b
    · subst h; simp
    · rw [show (a == b) = false by simpa using h]
      simp only [ih, List.mem_cons, h, false_or]
theorem find_congr {p q : List UInt8 → Bool} (L : List (List UInt8)) (h : ∀ w ∈ L, p w = q w) : L.find? p = L.find? q := by
  induction L with
  | nil => rfl
  | cons b L ih => rw [List.find?_cons, List.find?_cons, h b (by simp), ih (fun w hw => h w (by simp [hw]))]
theorem sign_find (l : List UInt8) : signT l = match sgs.find? (beg l) with | some w => .ok (6, w, 0, w.length) | none => .error 90 := by
  have h2 : signs2.find? (beg l) = if l.take 2 ∈ signs2 then some (l.take 2) else none := by
    rw [← find_self]
    apply find_congr
    intro w hw
    have : w.length = 2 := by
      simp only [signs2, List.mem_cons, List.not_mem_nil, or_false] at hw
      rcases hw with e | e | e | e <;> rw [e] <;> rfl
    unfold beg; rw [this]
  have h1 : (signs1.map fun c => [c]).find? (beg l) = if l.take 1 ∈ signs1.map (fun c => [c]) then some (l.take 1) else none := by
    rw [← find_self]
    apply find_congr
    intro w hw
    obtain ⟨c, _, rfl⟩ := List.mem_map.1 hw
    rfl
  rw [sgs, List.find?_append, h2, h1]
  unfold signT
  by_cases hs : l.take 2 ∈ signs2
  · rw [if_pos hs, if_pos hs]
    have : (l.take 2).length = 2 := by
      simp only [signs2, List.mem_cons, List.not_mem_nil, or_false] at hs
      rcases hs with e | e | e | e <;> rw [e] <;> rfl
    simp only [Option.some_or]
    rw [this]
  · rw [if_neg hs, if_neg hs, Option.none_or]
    cases l with
    | nil => simp
    | cons c t =>
      have hm : (c :: t).take 1 ∈ signs1.map (fun c => [c]) ↔ c ∈ signs1 := by
        simp [List.mem_map]
      by_cases hc : c ∈ signs1
      · rw [if_pos (hm.2 hc)]
        simp only [hc, if_true]
        try rfl
      · rw [if_neg (fun h => hc (hm.1 h))]
        try simp only [hc, if_false]
theorem sgs_len : sgs.length = 26 := by decide
end Tk
end Go.Proofs.YtcoakhahjdnlfaaDoor
