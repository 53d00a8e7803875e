/- The tables of bytes and the words that the token package begins with, by plain definition. No program in sight. -/
import Derived.Test.YtcoakhahjdnlfaaDoorTokN
import Derived.Lib.AsciiSet
import Derived.Lib.FieldsLaws
namespace Go.Proofs.YtcoakhahjdnlfaaDoor
set_option linter.all false
namespace Tk
/-- the bytes from a to b -/
def rng (a b : Nat) : List UInt8 := (List.range' a (b + 1 - a)).map UInt8.ofNat
/-- the bytes of some ranges -/
def rngs (l : List (Nat × Nat)) : List UInt8 := l.flatMap fun r => rng r.1 r.2
theorem u8_all {p : UInt8 → Bool} (h : (List.range 256).all (fun n => p (UInt8.ofNat n)) = true) (c : UInt8) : p c = true := by
  have := List.all_eq_true.1 h c.toNat (List.mem_range.2 c.toNat_lt)
  simpa using this
theorem u8_eq {p q : UInt8 → Bool} (h : (List.range 256).all (fun n => p (UInt8.ofNat n) == q (UInt8.ofNat n)) = true) (c : UInt8) : p c = q c := eq_of_beq (u8_all (p := fun c => p c == q c) h c)
theorem tab_letter (c : UInt8) : (rngs [(97, 122), (65, 90)]).contains c = letter c := u8_eq (p := fun c => (rngs [(97, 122), (65, 90)]).contains c) (by decide +kernel) c
theorem tab_inside (c : UInt8) : (rngs [(97, 122), (65, 90), (48, 57)]).contains c = inside c := u8_eq (p := fun c => (rngs [(97, 122), (65, 90), (48, 57)]).contains c) (by decide +kernel) c
theorem tab_digit (c : UInt8) : (rngs [(48, 57)]).contains c = digit c := u8_eq (p := fun c => (rngs [(48, 57)]).contains c) (by decide +kernel) c
theorem tab_hexa (c : UInt8) : (rngs [(48, 57), (65, 70)]).contains c = hexa c := u8_eq (p := fun c => (rngs [(48, 57), (65, 70)]).contains c) (by decide +kernel) c
theorem rng_len (a b : Nat) : (rng a b).length = b + 1 - a := by simp [rng]
theorem rng_at (a b i : Nat) (h : a + i ≤ b) : (rng a b).take (i + 1) = (rng a b).take i ++ [UInt8.ofNat (a + i)] := by
  have : (rng a b)[i]? = some (UInt8.ofNat (a + i)) := by
    simp [rng, List.getElem?_range', show i < b + 1 - a by omega]
  rw [List.take_succ, this]; rfl
theorem keys_nodup : keys.Nodup := by decide +kernel
theorem keys_len : keys.length = 33 := by decide +kernel
end Tk
end Go.Proofs.YtcoakhahjdnlfaaDoor
