/- The walk of the law ConstsAlgebra, all cases. Conditions: words and numbers lie in their bounds. -/
import Derived.Test.YthcpedonpiihnaaLwGb
import Derived.Test.YthcpedonpiihnaaLwGc
namespace Go.Proofs.Ythcpedonpiihnaa
set_option linter.all false
open Go.RowKit
theorem ConstsAlgebra_any (a b n : Int) (w : World) (a0 : 0 ≤ a) (a1 : a < 4294967296) (b0 : 0 ≤ b) (b1 : b < 4294967296) (n0 : -9223372036854775808 ≤ n) (n1 : n < 9223372036854775808) :
    Calls Try.prog 10 #[.int .u32 a, .int .u32 b, .int .i64 n] w fun e w' => e = .returned (.bool true) ∧ Below w.heap.size w w' := by
  cases hn : Sp.fit n
  · exact Algebra_out a b n w a0 a1 b0 b1 n0 n1 hn ((Sp.fit_false n).1 hn)
  · by_cases hc : n < 0 ∨ 31 < n
    · exact Algebra_far a b n w a0 a1 b0 b1 n0 n1 hn hc
    · obtain ⟨k, rfl⟩ := Int.eq_ofNat_of_zero_le (show 0 ≤ n by omega)
      exact Algebra_in a b k w a0 a1 b0 b1 (by omega)
end Go.Proofs.Ythcpedonpiihnaa
