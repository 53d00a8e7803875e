/- Order facts that the walk's simp discharges by itself: a place below a size lies below the size with more behind it. -/
import Derived.Test.YtcckbmmjklahfaaDoorMoreW
namespace Go.Proofs.YtcckbmmjklahfaaDoor
set_option linter.all false
@[go_sem] theorem lt_add1 (a b c : Nat) (h : a < b) : (a < b + c) = True := by simp; omega
@[go_sem] theorem lt_add2 (a b c d : Nat) (h : a < b) : (a < b + c + d) = True := by simp; omega
@[go_sem] theorem lt_add3 (a b c d e : Nat) (h : a < b) : (a < b + c + d + e) = True := by simp; omega
@[go_sem] theorem lt_add4 (a b c d e f : Nat) (h : a < b) : (a < b + c + d + e + f) = True := by simp; omega
end Go.Proofs.YtcckbmmjklahfaaDoor
