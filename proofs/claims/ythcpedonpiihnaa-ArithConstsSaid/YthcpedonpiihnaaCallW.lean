/- The walks of consts.shift, consts.call and of the document's answer for one or two values. Conditions: values are constants. -/
import Derived.Test.YthcpedonpiihnaaOneW
import Derived.Test.YthcpedonpiihnaaConU
import Derived.Test.YthcpedonpiihnaaLt2W
import Derived.Test.YthcpedonpiihnaaArithU
namespace Go.Proofs.Ythcpedonpiihnaa
set_option linter.all false
open Go.RowKit
namespace Sp
def shiftF (name : List UInt8) (a n : Int) : Int × Int × Int :=
  if (name == [76, 83, 76]) = true then (1, sgn (lsl a n), 0) else if (name == [65, 83, 82]) = true then (1, sgn (asr a n), 0) else if (name == [82, 79, 82]) = true then (1, sgn (ror a n), 0) else (0, 0, 120)
/-- of one value that is no text of one byte -/
def callC (name : List UInt8) (f n : Int) : Int × Int × Int :=
  if (name == [65, 66, 83] && f == 1) = true then fitsF (max n (-n))
  else if (name == [79, 68, 68] && f == 1) = true then (2, tn (n % 2 == 1), 0)
  else if (name == [67, 72, 82] && f == 1) = true then (if n < 0 ∨ 255 < n then (0, 0, 91) else (3, n, 0))
  else if (name == [79, 82, 68] && (f == 3 || f == 2)) = true then (1, n, 0)
  else if (name == [79, 82, 68] && f == 4) = true then (1, sgn n, 0)
  else (0, 0, 120)
def callF (name : List UInt8) (f n : Int) (t : List UInt8) : Int × Int × Int :=
  if name == [79, 82, 68] then callC name (charF f n t).1 (charF f n t).2.1 else callC name f n
end Sp
theorem shift_any (name : ByteArray) (a n : Int) (w : World) (ha : 0 ≤ a) (ha1 : a < 4294967296) (hn : 0 ≤ n) (hn1 : n < 4294967296) :
    Calls Try.prog 94 #[.string name, .int .u32 a, .int .u32 n] w fun e w' => e = .returned (Sp.R (Sp.shiftF name.toList a n)) ∧ ∃ g, w' = more w g := by
  have hla := Sp.lsl_bd a n
  have haa := Sp.asr_bd a n
  have hra := Sp.ror_bd a n ha ha1
  go_enter Try.func94, Try.ntmps94
  go_wp2_with (first | (go_at_call 87; refine (lsl_any _ _ _ (by omega) (by omega)).mono ?_; rintro e w' ⟨rfl, rfl⟩) | (go_at_call 88; refine (asr_any _ _ _ (by omega) (by omega) (by omega) (by omega)).mono ?_; rintro e w' ⟨rfl, rfl⟩) | (go_at_call 89; refine (ror_any _ _ _ (by omega) (by omega) (by omega) (by omega)).mono ?_; rintro e w' ⟨rfl, rfl⟩) | (go_at_call 86; refine (signed_any _ _ (by omega) (by omega)).mono ?_; rintro e w' ⟨rfl, rfl⟩) | (go_at_call 123; refine (number_any _ _).mono ?_; rintro e w' ⟨rfl, g, rfl⟩))
  all_goals
    go_returns
    exact ⟨by first | (simp [Sp.shiftF, *]; done) | (exfalso; simp_all; done), more_of_below (by repeat' (first | (with_reducible exact Below.refl _ _) | (with_reducible assumption) | (with_reducible refine below_more ?_ ?_ _) | (with_reducible refine below_drewN ?_ _) | (with_reducible refine Below.drew ?_) | (with_reducible refine Below.alloc ?_ ?_ _) | (with_reducible refine Below.setCell ?_ ?_ _) | go_size | (simp [more_size]; done) | (simp [more_size]; omega)))⟩
theorem callF_plain {f n : Int} {t : List UInt8} (name : List UInt8) (h : f ≠ 6) : Sp.callF name f n t = Sp.callC name f n := by
  have hc : Sp.charF f n t = (f, n, t) := by unfold Sp.charF; split <;> simp [h]
  unfold Sp.callF
  rw [hc]; simp
set_option maxRecDepth 100000 in
set_option maxHeartbeats 3200000 in
theorem call_int (name : ByteArray) (n : Int) (w : World) (hn : -2147483648 ≤ n ∧ n < 2147483648) :
    Calls Try.prog 93 #[.string name, .agg #[.int .i64 1, .int .i64 n, .string ⟨#[]⟩]] w fun e w' => e = .returned (Sp.R (Sp.callC name.toList 1 n)) ∧ ∃ g, w' = more w g := by
  have hand := i64_and1 n
  have H3 := Lib.hid (Sp.charF_3 1 [])
  have HC := Lib.hid (show Sp.charF 1 n (⟨#[]⟩ : ByteArray).data.toList = (1, n, (⟨#[]⟩ : ByteArray).data.toList) by simp [Sp.charF])
  go_enter Try.func93, Try.ntmps93
  go_wp2_with (first | (go_at_call 80; refine (fits_any _ _).mono ?_; rintro e w' ⟨rfl, g, rfl⟩) | (go_at_call 53; refine (truth_any _ _).mono ?_; rintro e w' ⟨rfl, g, rfl⟩) | (go_at_call 46; ((with_reducible refine (char_k HC.out _).mono ?_); rintro e w' ⟨rfl, g, rfl⟩)))
  all_goals
    go_returns
    exact ⟨by first | (simp [Sp.callC, *]; done) | (exfalso; simp_all; done) | (simp [Sp.callC, *]; rw [if_neg (by omega)]; simp; done), more_of_below (by repeat' (first | (with_reducible exact Below.refl _ _) | (with_reducible assumption) | (with_reducible refine below_more ?_ ?_ _) | (with_reducible refine below_drewN ?_ _) | (with_reducible refine Below.drew ?_) | (with_reducible refine Below.alloc ?_ ?_ _) | (with_reducible refine Below.setCell ?_ ?_ _) | go_size | (simp [more_size]; done) | (simp [more_size]; omega)))⟩
set_option maxRecDepth 100000 in
set_option maxHeartbeats 3200000 in
theorem call_text (name : ByteArray) (f n f' n' : Int) (t t' : ByteArray) (w : World) (h1 : (f == 1) = false) (hc : Sp.charF f n t.data.toList = (f', n', t'.data.toList)) (hf : f' = 2 ∨ f' = 3 ∨ f' = 4 ∨ f' = 5 ∨ f' = 6) (h4 : f' = 4 → 0 ≤ n' ∧ n' < 4294967296) :
    Calls Try.prog 93 #[.string name, .agg #[.int .i64 f, .int .i64 n, .string t]] w fun e w' => e = .returned (Sp.R (if (name.toList == [79, 82, 68]) = true then Sp.callC name.toList f' n' else (0, 0, 120))) ∧ ∃ g, w' = more w g := by
  have HC := Lib.hid hc
  clear hc
  have e1 : f' ≠ 1 := by omega
  rcases hf with rfl | rfl | rfl | rfl | rfl
  all_goals
    try (obtain ⟨b0, b1⟩ := h4 rfl)
    clear h4
    go_enter Try.func93, Try.ntmps93
    go_wp2_with (first | (go_at_call 46; ((with_reducible refine (char_k HC.out _).mono ?_); rintro e w' ⟨rfl, g, rfl⟩)) | (go_at_call 123; refine (number_any _ _).mono ?_; rintro e w' ⟨rfl, g, rfl⟩) | (go_at_call 86; refine (signed_any _ _ (by omega) (by omega)).mono ?_; rintro e w' ⟨rfl, rfl⟩))
    all_goals
      go_returns
      exact ⟨by first | (simp [Sp.callC, *]; done) | (exfalso; simp_all; done), more_of_below (by repeat' (first | (with_reducible exact Below.refl _ _) | (with_reducible assumption) | (with_reducible refine below_more ?_ ?_ _) | (with_reducible refine below_drewN ?_ _) | (with_reducible refine Below.drew ?_) | (with_reducible refine Below.alloc ?_ ?_ _) | (with_reducible refine Below.setCell ?_ ?_ _) | go_size | (simp [more_size]; done) | (simp [more_size]; omega)))⟩
end Go.Proofs.Ythcpedonpiihnaa
