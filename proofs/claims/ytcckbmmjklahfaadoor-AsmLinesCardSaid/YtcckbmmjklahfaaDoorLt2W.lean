/- Order facts that the walk's simp discharges by itself, for longer sums. -/
import Derived.Test.YtcckbmmjklahfaaDoorLtW
namespace Go.Proofs.YtcckbmmjklahfaaDoor
set_option linter.all false
@[go_sem] theorem lt_add5 (a b c0 c1 c2 c3 c4 : Nat) (h : a < b) : (a < b + c0 + c1 + c2 + c3 + c4) = True := by simp; omega
@[go_sem] theorem lt_add6 (a b c0 c1 c2 c3 c4 c5 : Nat) (h : a < b) : (a < b + c0 + c1 + c2 + c3 + c4 + c5) = True := by simp; omega
@[go_sem] theorem lt_add7 (a b c0 c1 c2 c3 c4 c5 c6 : Nat) (h : a < b) : (a < b + c0 + c1 + c2 + c3 + c4 + c5 + c6) = True := by simp; omega
@[go_sem] theorem lt_add8 (a b c0 c1 c2 c3 c4 c5 c6 c7 : Nat) (h : a < b) : (a < b + c0 + c1 + c2 + c3 + c4 + c5 + c6 + c7) = True := by simp; omega
@[go_sem] theorem lt_add9 (a b c0 c1 c2 c3 c4 c5 c6 c7 c8 : Nat) (h : a < b) : (a < b + c0 + c1 + c2 + c3 + c4 + c5 + c6 + c7 + c8) = True := by simp; omega
@[go_sem] theorem lt_add10 (a b c0 c1 c2 c3 c4 c5 c6 c7 c8 c9 : Nat) (h : a < b) : (a < b + c0 + c1 + c2 + c3 + c4 + c5 + c6 + c7 + c8 + c9) = True := by simp; omega
@[go_sem] theorem lt_add11 (a b c0 c1 c2 c3 c4 c5 c6 c7 c8 c9 c10 : Nat) (h : a < b) : (a < b + c0 + c1 + c2 + c3 + c4 + c5 + c6 + c7 + c8 + c9 + c10) = True := by simp; omega
@[go_sem] theorem lt_add12 (a b c0 c1 c2 c3 c4 c5 c6 c7 c8 c9 c10 c11 : Nat) (h : a < b) : (a < b + c0 + c1 + c2 + c3 + c4 + c5 + c6 + c7 + c8 + c9 + c10 + c11) = True := by simp; omega
@[go_sem] theorem lt_add13 (a b c0 c1 c2 c3 c4 c5 c6 c7 c8 c9 c10 c11 c12 : Nat) (h : a < b) : (a < b + c0 + c1 + c2 + c3 + c4 + c5 + c6 + c7 + c8 + c9 + c10 + c11 + c12) = True := by simp; omega
@[go_sem] theorem lt_add14 (a b c0 c1 c2 c3 c4 c5 c6 c7 c8 c9 c10 c11 c12 c13 : Nat) (h : a < b) : (a < b + c0 + c1 + c2 + c3 + c4 + c5 + c6 + c7 + c8 + c9 + c10 + c11 + c12 + c13) = True := by simp; omega
end Go.Proofs.YtcckbmmjklahfaaDoor
