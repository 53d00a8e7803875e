/- The walk of the document's operation of two constants (ref12.Two). Written by gen_rtwo.py. Conditions: numbers lie in their bounds; texts are shorter than a text may be. -/
import Derived.Test.YthcpedonpiihnaaConQ
namespace Go.Proofs.Ythcpedonpiihnaa
set_option linter.all false
open Go.RowKit
theorem setop_bds (op : List UInt8) (s t : Int) (hs : 0 ≤ s) (hs1 : s < 4294967296) (ht : 0 ≤ t) (ht1 : t < 4294967296) : 0 ≤ (Sp.setop op s t).1 ∧ (Sp.setop op s t).1 < 4294967296 := by
  have h1 : s.toNat ||| t.toNat < 2 ^ 32 := Nat.or_lt_two_pow (by omega) (by omega)
  have h2 : s.toNat &&& (4294967295 - t.toNat) < 2 ^ 32 := Nat.and_lt_two_pow _ (by omega)
  have h3 : s.toNat &&& t.toNat < 2 ^ 32 := Nat.and_lt_two_pow _ (by omega)
  have h4 : s.toNat ^^^ t.toNat < 2 ^ 32 := Nat.xor_lt_two_pow (by omega) (by omega)
  unfold Sp.setop
  split
  · rw [u32_or s t hs hs1 ht ht1]; omega
  · split
    · rw [u32_andNot s t hs hs1 ht ht1]; omega
    · split
      · rw [u32_and s t hs hs1 ht ht1]; omega
      · split
        · rw [u32_xor s t hs hs1 ht ht1]; omega
        · simp
theorem order3_lt {na nb : Int} (ta tb : List UInt8) (h : na < nb) : Sp.order3 na nb ta tb = -1 := by simp [Sp.order3, h]
theorem order3_gt {na nb : Int} (ta tb : List UInt8) (h : nb < na) : Sp.order3 na nb ta tb = 1 := by unfold Sp.order3; rw [if_neg (by omega), if_pos h]
theorem order3_eq (na : Int) (ta tb : List UInt8) : Sp.order3 na na ta tb = Lib.compareBytes ta tb := by unfold Sp.order3; rw [if_neg (by omega), if_neg (by omega)]
end Go.Proofs.Ythcpedonpiihnaa
