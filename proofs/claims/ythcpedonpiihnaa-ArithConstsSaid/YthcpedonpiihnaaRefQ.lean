/- The walks of the small functions of the document's answer for constants (ref12). Conditions: numbers lie in their bounds; texts are shorter than a text may be. -/
import Derived.Test.YthcpedonpiihnaaConP
import Derived.Test.YthcpedonpiihnaaArithU
import Derived.Test.YthcpedonpiihnaaLtW
namespace Go.Proofs.Ythcpedonpiihnaa
set_option linter.unusedSimpArgs false
set_option linter.unusedVariables false
open Go.RowKit
namespace Sp
def rints (op : List UInt8) (a b : Int) : Int × Int × Int :=
  if op == [43] then fitsF (a + b) else if op == [45] then fitsF (a - b) else if op == [42] then fitsF (a * b)
  else if op == [68, 73, 86] then divF a b true else if op == [77, 79, 68] then divF a b false else (0, 0, 120)
end Sp
theorem rinteger_any (n : Int) (w : World) :
    Calls Try.prog 81 #[.int .i64 n] w fun e w' => e = .returned (Sp.R (Sp.fitsF n)) ∧ ∃ g, w' = more w g := by
  cases hf : Sp.fit n
  all_goals
    go_enter Try.func81, Try.ntmps81
    go_wp2_with (first | (go_at_call 83; refine (rfits32_any _ _).mono ?_; rintro e w' ⟨rfl, rfl⟩))
    go_returns
    exact ⟨by simp [Sp.fitsF, hf], more_of_below (by repeat' (first | (with_reducible exact Below.refl _ _) | (with_reducible assumption) | (with_reducible refine below_more ?_ ?_ _) | (with_reducible refine below_drewN ?_ _) | (with_reducible refine Below.drew ?_) | (with_reducible refine Below.alloc ?_ ?_ _) | (with_reducible refine Below.setCell ?_ ?_ _) | go_size | (simp [more_size]; done) | (simp [more_size]; omega)))⟩
theorem rtruth_any (b : Bool) (w : World) :
    Calls Try.prog 56 #[.bool b] w fun e w' => e = .returned (Sp.R (2, Sp.tn b, 0)) ∧ ∃ g, w' = more w g := by
  cases b
  all_goals
    go_enter Try.func56, Try.ntmps56
    go_wp2
    go_returns
    exact ⟨rfl, more_of_below (by repeat' (first | (with_reducible exact Below.refl _ _) | (with_reducible assumption) | (with_reducible refine below_more ?_ ?_ _) | (with_reducible refine below_drewN ?_ _) | (with_reducible refine Below.drew ?_) | (with_reducible refine Below.alloc ?_ ?_ _) | (with_reducible refine Below.setCell ?_ ?_ _) | go_size | (simp [more_size]; done) | (simp [more_size]; omega)))⟩
theorem rcset_any (n : Int) (w : World) (h0 : 0 ≤ n) (h1 : n < 4294967296) :
    Calls Try.prog 62 #[.int .u32 n] w fun e w' => e = .returned (Sp.R (4, n, 0)) ∧ ∃ g, w' = more w g := by
  go_enter Try.func62, Try.ntmps62
  go_wp2
  go_returns
  exact ⟨rfl, more_of_below (by repeat' (first | (with_reducible exact Below.refl _ _) | (with_reducible assumption) | (with_reducible refine below_more ?_ ?_ _) | (with_reducible refine below_drewN ?_ _) | (with_reducible refine Below.drew ?_) | (with_reducible refine Below.alloc ?_ ?_ _) | (with_reducible refine Below.setCell ?_ ?_ _) | go_size | (simp [more_size]; done) | (simp [more_size]; omega)))⟩
theorem rnone_any (w : World) :
    Calls Try.prog 54 #[] w fun e w' => e = .returned (Sp.R (0, 0, 120)) ∧ ∃ g, w' = more w g := by
  go_enter Try.func54, Try.ntmps54
  go_wp2
  go_returns
  exact ⟨rfl, more_of_below (by repeat' (first | (with_reducible exact Below.refl _ _) | (with_reducible assumption) | (with_reducible refine below_more ?_ ?_ _) | (with_reducible refine below_drewN ?_ _) | (with_reducible refine Below.drew ?_) | (with_reducible refine Below.alloc ?_ ?_ _) | (with_reducible refine Below.setCell ?_ ?_ _) | go_size | (simp [more_size]; done) | (simp [more_size]; omega)))⟩
theorem rChar_any (f n : Int) (t : ByteArray) (w : World) :
    Calls Try.prog 55 #[.agg #[.int .i64 f, .int .i64 n, .string t]] w fun e w' =>
      e = .returned (.agg #[.int .i64 (Sp.charF f n t.data.toList).1, .int .i64 (Sp.charF f n t.data.toList).2.1, .string ⟨(Sp.charF f n t.data.toList).2.2.toArray⟩]) ∧ ∃ g, w' = more w g := by
  by_cases hf : f = 6 ∧ t.size = 1
  · obtain ⟨rfl, ht⟩ := hf
    obtain ⟨c, hc⟩ : ∃ c, t = ⟨#[c]⟩ := by
      refine ⟨t[0], ?_⟩
      apply bytes_ext
      have : t.data.toList.length = 1 := by simpa using ht
      match hl : t.data.toList, this with
      | [c], _ =>
        have : t[0] = c := by
          have := List.getElem_of_eq hl (show 0 < t.data.toList.length by rw [hl]; simp)
          exact (by simpa using this : t.data.toList[0] = c)
        rw [this]
    subst hc
    go_enter Try.func55, Try.ntmps55
    go_wp2
    go_returns
    have hw : wrap64 ((⟨#[c]⟩ : ByteArray)[0].toNat : Int) = c.toNat := by
      have := c.toNat_lt
      show wrap64 (c.toNat : Int) = c.toNat
      simp only [wrap64]; omega
    exact ⟨by simp [Sp.charF, hw], more_of_below (by repeat' (first | (with_reducible exact Below.refl _ _) | (with_reducible assumption) | (with_reducible refine below_more ?_ ?_ _) | (with_reducible refine below_drewN ?_ _) | (with_reducible refine Below.drew ?_) | (with_reducible refine Below.alloc ?_ ?_ _) | (with_reducible refine Below.setCell ?_ ?_ _) | go_size | (simp [more_size]; done) | (simp [more_size]; omega)))⟩
  · have hc : Sp.charF f n t.data.toList = (f, n, t.data.toList) := by
      unfold Sp.charF
      split
      · rename_i c hc
        rw [if_neg (fun e => hf ⟨e, by have : t.data.toList.length = 1 := by rw [hc]; rfl
                                       simpa using this⟩), hc]
      · rfl
    rw [hc]
    simp only [bytes_eta]
    by_cases h6 : f = 6
    · subst h6
      have ht : ((t.size : Int) == 1) = false := by simp; omega
      clear hf hc
      go_enter Try.func55, Try.ntmps55
      go_wp2
      go_returns
      exact ⟨rfl, more_of_below (by repeat' (first | (with_reducible exact Below.refl _ _) | (with_reducible assumption) | (with_reducible refine below_more ?_ ?_ _) | (with_reducible refine below_drewN ?_ _) | (with_reducible refine Below.drew ?_) | (with_reducible refine Below.alloc ?_ ?_ _) | (with_reducible refine Below.setCell ?_ ?_ _) | go_size | (simp [more_size]; done) | (simp [more_size]; omega)))⟩
    · have ht : (f == 6) = false := by simp [h6]
      clear hf hc h6
      go_enter Try.func55, Try.ntmps55
      go_wp2
      go_returns
      exact ⟨rfl, more_of_below (by repeat' (first | (with_reducible exact Below.refl _ _) | (with_reducible assumption) | (with_reducible refine below_more ?_ ?_ _) | (with_reducible refine below_drewN ?_ _) | (with_reducible refine Below.drew ?_) | (with_reducible refine Below.alloc ?_ ?_ _) | (with_reducible refine Below.setCell ?_ ?_ _) | go_size | (simp [more_size]; done) | (simp [more_size]; omega)))⟩
theorem rchar_k {f n f' n' : Int} {t t' : ByteArray} (h : Sp.charF f n t.data.toList = (f', n', t'.data.toList)) (w : World) :
    Calls Try.prog 55 #[.agg #[.int .i64 f, .int .i64 n, .string t]] w fun e w' => e = .returned (.agg #[.int .i64 f', .int .i64 n', .string t']) ∧ ∃ g, w' = more w g :=
  (rChar_any f n t w).mono fun e w' h' => by rw [h] at h'; exact h'
theorem order_any (a b : ByteArray) (w : World) :
    Calls Try.prog 58 #[.string a, .string b] w fun e w' => e = .returned (.int .i64 (Lib.compareBytes a.data.toList b.data.toList)) ∧ ∃ g, w' = more w g := by
  have H := Lib.hid (less_cmp a.data.toList b.data.toList)
  go_enter Try.func58, Try.ntmps58
  go_wp2
  · rename_i h1
    simp only [ByteArray.toList_eq] at h1
    have h := H.out.1.1 h1
    go_ret
    exact ⟨by rw [h]; rfl, more_of_below (by repeat' (first | (with_reducible exact Below.refl _ _) | (with_reducible assumption) | (with_reducible refine below_more ?_ ?_ _) | (with_reducible refine below_drewN ?_ _) | (with_reducible refine Below.drew ?_) | (with_reducible refine Below.alloc ?_ ?_ _) | (with_reducible refine Below.setCell ?_ ?_ _) | go_size | (simp [more_size]; done) | (simp [more_size]; omega)))⟩
  · rename_i h1 h2
    simp only [ByteArray.toList_eq] at h1 h2
    have h : Lib.compareBytes a.data.toList b.data.toList = 1 := by
      rcases H.out.2.2.1 with h | h | h
      · rw [H.out.1.2 h] at h1; cases h1
      · have := H.out.2.2.2.1 h; rw [this] at h2; simp at h2
      · exact h
    go_ret
    exact ⟨by rw [h]; rfl, more_of_below (by repeat' (first | (with_reducible exact Below.refl _ _) | (with_reducible assumption) | (with_reducible refine below_more ?_ ?_ _) | (with_reducible refine below_drewN ?_ _) | (with_reducible refine Below.drew ?_) | (with_reducible refine Below.alloc ?_ ?_ _) | (with_reducible refine Below.setCell ?_ ?_ _) | go_size | (simp [more_size]; done) | (simp [more_size]; omega)))⟩
  · rename_i h1 h2
    simp only [ByteArray.toList_eq] at h1 h2
    have h : Lib.compareBytes a.data.toList b.data.toList = 0 := H.out.2.2.2.2 (by simpa using h2)
    go_ret
    exact ⟨by rw [h]; rfl, more_of_below (by repeat' (first | (with_reducible exact Below.refl _ _) | (with_reducible assumption) | (with_reducible refine below_more ?_ ?_ _) | (with_reducible refine below_drewN ?_ _) | (with_reducible refine Below.drew ?_) | (with_reducible refine Below.alloc ?_ ?_ _) | (with_reducible refine Below.setCell ?_ ?_ _) | go_size | (simp [more_size]; done) | (simp [more_size]; omega)))⟩
theorem Same_eq (f n : Int) (t : ByteArray) (w : World) :
    Calls Try.prog 20 #[.agg #[.int .i64 f, .int .i64 n, .string t], .agg #[.int .i64 f, .int .i64 n, .string t]] w fun e w' => e = .returned (.bool true) ∧ ∃ g, w' = more w g := by
  go_enter Try.func20, Try.ntmps20
  go_wp2
  go_ret
  exact ⟨rfl, more_of_below (by repeat' (first | (with_reducible exact Below.refl _ _) | (with_reducible assumption) | (with_reducible refine below_more ?_ ?_ _) | (with_reducible refine below_drewN ?_ _) | (with_reducible refine Below.drew ?_) | (with_reducible refine Below.alloc ?_ ?_ _) | (with_reducible refine Below.setCell ?_ ?_ _) | go_size | (simp [more_size]; done) | (simp [more_size]; omega)))⟩
set_option maxHeartbeats 800000 in
theorem rints_any (op : ByteArray) (a b : Int) (w : World) (ha : -2147483648 ≤ a ∧ a < 2147483648) (hb : -2147483648 ≤ b ∧ b < 2147483648) :
    Calls Try.prog 60 #[.string op, .int .i64 a, .int .i64 b] w fun e w' => e = .returned (Sp.R (Sp.rints op.toList a b)) ∧ ∃ g, w' = more w g := by
  have hm := mul_bd a b ha hb
  have ea := sgn_mod_self a ha
  have eb := sgn_mod_self b hb
  by_cases hb0 : b ≤ 0
  · have ed : Sp.divF a b true = (0, 0, 121) := by simp [Sp.divF, hb0]
    have ee : Sp.divF a b false = (0, 0, 121) := by simp [Sp.divF, hb0]
    go_enter Try.func60, Try.ntmps60
    go_wp2_with (first | (go_at_call 81; refine (rinteger_any _ _).mono ?_; rintro e w' ⟨rfl, g, rfl⟩) | (go_at_call 54; refine (rnone_any _).mono ?_; rintro e w' ⟨rfl, g, rfl⟩))
    all_goals
      go_returns
      exact ⟨by first | (simp [Sp.rints, *]; done) | (exfalso; simp_all; done), more_of_below (by repeat' (first | (with_reducible exact Below.refl _ _) | (with_reducible assumption) | (with_reducible refine below_more ?_ ?_ _) | (with_reducible refine below_drewN ?_ _) | (with_reducible refine Below.drew ?_) | (with_reducible refine Below.alloc ?_ ?_ _) | (with_reducible refine Below.setCell ?_ ?_ _) | go_size | (simp [more_size]; done) | (simp [more_size]; omega)))⟩
  · have f1 := Sp.div_ok a b ha (by omega)
    have f2 := Sp.mod_ok a b ha (by omega) hb.2
    have eq := sgn_mod_self _ ((Sp.fit_iff _).1 f1)
    have er := sgn_mod_self _ ((Sp.fit_iff _).1 f2)
    have e3 : a - a / b * b = a % b := by have := Int.emod_add_mul_ediv a b; rw [Int.mul_comm]; omega
    rw [← e3] at er
    have G1 := Lib.hid f1
    have G2 := Lib.hid f2
    have G3 := Lib.hid e3
    have ed : Sp.divF a b true = (1, a / b, 0) := by simp [Sp.divF, hb0]
    have ee : Sp.divF a b false = (1, a % b, 0) := by simp [Sp.divF, hb0]
    have ED := Lib.hid ed
    have EE := Lib.hid ee
    clear ed ee f1 f2 e3
    go_enter Try.func60, Try.ntmps60
    go_wp2_with (first | (go_at_call 81; refine (rinteger_any _ _).mono ?_; rintro e w' ⟨rfl, g, rfl⟩) | (go_at_call 54; refine (rnone_any _).mono ?_; rintro e w' ⟨rfl, g, rfl⟩) | (go_at_call 76; refine (rword_any _ _).mono ?_; rintro e w' ⟨rfl, rfl⟩) | (go_at_call 77; refine (rsigned_any _ _ (by omega) (by omega)).mono ?_; rintro e w' ⟨rfl, rfl⟩) | (go_at_call 78; refine (do_any _ _ _ (by omega) (by omega) (by omega) (by omega) (by omega)).mono ?_; rintro e w1 ⟨⟨c1, c2, c3, c4, rfl⟩, hb1⟩; obtain ⟨gd, rfl⟩ := more_of_below hb1; clear hb1))
    all_goals
      go_returns
      exact ⟨by first | (simp [Sp.rints, Sp.fitsF, G1.out, G2.out, G3.out, ED.out, EE.out, *]; done) | (exfalso; simp_all; done), more_of_below (by repeat' (first | (with_reducible exact Below.refl _ _) | (with_reducible assumption) | (with_reducible refine below_more ?_ ?_ _) | (with_reducible refine below_drewN ?_ _) | (with_reducible refine Below.drew ?_) | (with_reducible refine Below.alloc ?_ ?_ _) | (with_reducible refine Below.setCell ?_ ?_ _) | go_size | (simp [more_size]; done) | (simp [more_size]; omega)))⟩
end Go.Proofs.Ythcpedonpiihnaa
