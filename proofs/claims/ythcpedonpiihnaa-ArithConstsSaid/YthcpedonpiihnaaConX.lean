/- The walks of the closures that the package consts lays into its table. Conditions: numbers lie in their bounds; what a closure holds lies in its cell. -/
import Derived.Test.YthcpedonpiihnaaConW
namespace Go.Proofs.Ythcpedonpiihnaa
set_option linter.unusedSimpArgs false
set_option linter.unusedVariables false
open Go.RowKit
theorem divides_any (a b : Int) (q : Bool) (w : World) (ha : -2147483648 ≤ a ∧ a < 2147483648) (hb : -2147483648 ≤ b ∧ b < 2147483648) :
    Calls Try.prog 101 #[.int .i64 a, .int .i64 b, .bool q] w fun e w' => e = .returned (Sp.R (Sp.divF a b q)) ∧ ∃ g, w' = more w g := by
  by_cases hb0 : b ≤ 0
  · go_enter Try.func101, Try.ntmps101
    go_wp2
    go_returns
    exact ⟨by simp [Sp.divF, hb0], more_of_below (by repeat' (first | (with_reducible exact Below.refl _ _) | (with_reducible assumption) | (with_reducible refine below_more ?_ ?_ _) | (with_reducible refine below_drewN ?_ _) | (with_reducible refine Below.drew ?_) | (with_reducible refine Below.alloc ?_ ?_ _) | (with_reducible refine Below.setCell ?_ ?_ _) | go_size))⟩
  · have hq : a.tdiv b = (if 0 ≤ a ∨ b ∣ a then a / b else a / b + 1) ∧ a.tmod b = (if 0 ≤ a ∨ b ∣ a then a % b else a % b - b) := by
      rw [Int.tdiv_eq_ediv, Int.sign_eq_one_of_pos (by omega), Int.tmod_eq_emod]
      constructor <;> split <;> omega
    have hd := (Sp.fit_iff _).1 (Sp.div_ok a b ha (by omega))
    have h1 := Int.emod_nonneg a (b := b) (by omega)
    have h2 := Int.emod_lt_of_pos a (show 0 < b by omega)
    obtain ⟨hq1, hq2⟩ := hq
    by_cases hn : 0 ≤ a ∨ b ∣ a
    · rw [if_pos hn] at hq1 hq2
      have hr : (a.tmod b < 0) = False := by rw [hq2]; simp; omega
      cases q
      all_goals
        clear hn
        go_enter Try.func101, Try.ntmps101
        go_wp2_with fail
        go_quiet (fail)
        go_wp2_with (first | (go_at_call 123; refine (number_any _ _).mono ?_; rintro e w' ⟨rfl, g, rfl⟩))
        go_returns
        exact ⟨by simp [Sp.divF, show ¬ b ≤ 0 from by omega], more_of_below (by repeat' (first | (with_reducible exact Below.refl _ _) | (with_reducible assumption) | (with_reducible refine below_more ?_ ?_ _) | (with_reducible refine below_drewN ?_ _) | (with_reducible refine Below.drew ?_) | (with_reducible refine Below.alloc ?_ ?_ _) | (with_reducible refine Below.setCell ?_ ?_ _) | go_size))⟩
    · rw [if_neg hn] at hq1 hq2
      have hz : a % b ≠ 0 := fun e => hn (.inr (Int.dvd_of_emod_eq_zero e))
      cases q
      all_goals
        clear hn
        go_enter Try.func101, Try.ntmps101
        go_wp2_with fail
        go_quiet (fail)
        go_wp2_with (first | (go_at_call 123; refine (number_any _ _).mono ?_; rintro e w' ⟨rfl, g, rfl⟩))
        go_returns
        exact ⟨by simp [Sp.divF, show ¬ b ≤ 0 from by omega], more_of_below (by repeat' (first | (with_reducible exact Below.refl _ _) | (with_reducible assumption) | (with_reducible refine below_more ?_ ?_ _) | (with_reducible refine below_drewN ?_ _) | (with_reducible refine Below.drew ?_) | (with_reducible refine Below.alloc ?_ ?_ _) | (with_reducible refine Below.setCell ?_ ?_ _) | go_size))⟩
theorem char_any (f n : Int) (t : ByteArray) (w : World) :
    Calls Try.prog 46 #[.agg #[.int .i64 f, .int .i64 n, .string t]] w fun e w' =>
      e = .returned (.agg #[.int .i64 (Sp.charF f n t.data.toList).1, .int .i64 (Sp.charF f n t.data.toList).2.1, .string ⟨(Sp.charF f n t.data.toList).2.2.toArray⟩]) ∧ ∃ g, w' = more w g := by
  by_cases hf : f = 6 ∧ t.size = 1
  · obtain ⟨rfl, ht⟩ := hf
    obtain ⟨c, hc⟩ : ∃ c, t = ⟨#[c]⟩ := by
      refine ⟨t[0], ?_⟩
      apply bytes_ext
      have : t.data.toList.length = 1 := by simpa using ht
      match hl : t.data.toList, this with
      | [c], _ =>
        have : t[0] = c := by
          have := List.getElem_of_eq hl (show 0 < t.data.toList.length by rw [hl]; simp)
          exact (by simpa using this : t.data.toList[0] = c)
        rw [this]
    subst hc
    go_enter Try.func46, Try.ntmps46
    go_wp2
    go_returns
    have hw : wrap64 ((⟨#[c]⟩ : ByteArray)[0].toNat : Int) = c.toNat := by
      have := c.toNat_lt
      show wrap64 (c.toNat : Int) = c.toNat
      simp only [wrap64]; omega
    exact ⟨by simp [Sp.charF, hw], more_of_below (by repeat' (first | (with_reducible exact Below.refl _ _) | (with_reducible assumption) | (with_reducible refine below_more ?_ ?_ _) | (with_reducible refine below_drewN ?_ _) | (with_reducible refine Below.drew ?_) | (with_reducible refine Below.alloc ?_ ?_ _) | (with_reducible refine Below.setCell ?_ ?_ _) | go_size))⟩
  · have hc : Sp.charF f n t.data.toList = (f, n, t.data.toList) := by
      unfold Sp.charF
      split
      · rename_i c hc
        rw [if_neg (fun e => hf ⟨e, by have : t.data.toList.length = 1 := by rw [hc]; rfl
                                       simpa using this⟩), hc]
      · rfl
    rw [hc]
    simp only [bytes_eta]
    by_cases h6 : f = 6
    · subst h6
      have ht : ((t.size : Int) == 1) = false := by simp; omega
      clear hf hc
      go_enter Try.func46, Try.ntmps46
      go_wp2
      go_returns
      exact ⟨rfl, more_of_below (by repeat' (first | (with_reducible exact Below.refl _ _) | (with_reducible assumption) | (with_reducible refine below_more ?_ ?_ _) | (with_reducible refine below_drewN ?_ _) | (with_reducible refine Below.drew ?_) | (with_reducible refine Below.alloc ?_ ?_ _) | (with_reducible refine Below.setCell ?_ ?_ _) | go_size))⟩
    · have ht : (f == 6) = false := by simp [h6]
      clear hf hc h6
      go_enter Try.func46, Try.ntmps46
      go_wp2
      go_returns
      exact ⟨rfl, more_of_below (by repeat' (first | (with_reducible exact Below.refl _ _) | (with_reducible assumption) | (with_reducible refine below_more ?_ ?_ _) | (with_reducible refine below_drewN ?_ _) | (with_reducible refine Below.drew ?_) | (with_reducible refine Below.alloc ?_ ?_ _) | (with_reducible refine Below.setCell ?_ ?_ _) | go_size))⟩


theorem ints2_any (x y : Int) (w : World) (hx : -2147483648 ≤ x ∧ x < 2147483648) (hy : -2147483648 ≤ y ∧ y < 2147483648) :
    Calls Try.prog 97 #[.int .i64 x, .int .i64 y] w fun e w' => e = .returned (Sp.R (Sp.fitsF (x + y))) ∧ ∃ g, w' = more w g := by
  go_enter Try.func97, Try.ntmps97
  go_wp2_with (first | (go_at_call 80; refine (fits_any _ _).mono ?_; rintro e w' ⟨rfl, g, rfl⟩) | (go_at_call 101; refine (divides_any _ _ _ _ hx hy).mono ?_; rintro e w' ⟨rfl, g, rfl⟩))
  go_returns
  exact ⟨rfl, more_of_below (by repeat' (first | (with_reducible exact Below.refl _ _) | (with_reducible assumption) | (with_reducible refine below_more ?_ ?_ _) | (with_reducible refine below_drewN ?_ _) | (with_reducible refine Below.drew ?_) | (with_reducible refine Below.alloc ?_ ?_ _) | (with_reducible refine Below.setCell ?_ ?_ _) | go_size))⟩
theorem ints11_2 (p : Nat) (f f' x y : Int) (t t' : ByteArray) (w : World) (hx : -2147483648 ≤ x ∧ x < 2147483648) (hy : -2147483648 ≤ y ∧ y < 2147483648) (hp : w.cell? ⟨p, 0, none⟩ = some (.func (.func 97) #[] #[])) (hl : p < w.heap.size) :
    Calls Try.prog 96 #[.agg #[.int .i64 f, .int .i64 x, .string t], .agg #[.int .i64 f', .int .i64 y, .string t'], .pointer (some ⟨p, 0, none⟩)] w fun e w' => e = .returned (Sp.R (Sp.fitsF (x + y))) ∧ ∃ g, w' = more w g := by
  have hl1 : p < w.heap.size + 1 := by omega
  have hl2 : p < w.heap.size + 1 + 1 := by omega
  go_enter Try.func96, Try.ntmps96
  go_wp2_with (go_at_call 97; refine (ints2_any _ _ _ hx hy).mono ?_; rintro e w' ⟨rfl, g, rfl⟩)
  go_returns
  exact ⟨rfl, more_of_below (by repeat' (first | (with_reducible exact Below.refl _ _) | (with_reducible assumption) | (with_reducible refine below_more ?_ ?_ _) | (with_reducible refine below_drewN ?_ _) | (with_reducible refine Below.drew ?_) | (with_reducible refine Below.alloc ?_ ?_ _) | (with_reducible refine Below.setCell ?_ ?_ _) | go_size))⟩

theorem ints3_any (x y : Int) (w : World) (hx : -2147483648 ≤ x ∧ x < 2147483648) (hy : -2147483648 ≤ y ∧ y < 2147483648) :
    Calls Try.prog 98 #[.int .i64 x, .int .i64 y] w fun e w' => e = .returned (Sp.R (Sp.fitsF (x - y))) ∧ ∃ g, w' = more w g := by
  go_enter Try.func98, Try.ntmps98
  go_wp2_with (first | (go_at_call 80; refine (fits_any _ _).mono ?_; rintro e w' ⟨rfl, g, rfl⟩) | (go_at_call 101; refine (divides_any _ _ _ _ hx hy).mono ?_; rintro e w' ⟨rfl, g, rfl⟩))
  go_returns
  exact ⟨rfl, more_of_below (by repeat' (first | (with_reducible exact Below.refl _ _) | (with_reducible assumption) | (with_reducible refine below_more ?_ ?_ _) | (with_reducible refine below_drewN ?_ _) | (with_reducible refine Below.drew ?_) | (with_reducible refine Below.alloc ?_ ?_ _) | (with_reducible refine Below.setCell ?_ ?_ _) | go_size))⟩
theorem ints11_3 (p : Nat) (f f' x y : Int) (t t' : ByteArray) (w : World) (hx : -2147483648 ≤ x ∧ x < 2147483648) (hy : -2147483648 ≤ y ∧ y < 2147483648) (hp : w.cell? ⟨p, 0, none⟩ = some (.func (.func 98) #[] #[])) (hl : p < w.heap.size) :
    Calls Try.prog 96 #[.agg #[.int .i64 f, .int .i64 x, .string t], .agg #[.int .i64 f', .int .i64 y, .string t'], .pointer (some ⟨p, 0, none⟩)] w fun e w' => e = .returned (Sp.R (Sp.fitsF (x - y))) ∧ ∃ g, w' = more w g := by
  have hl1 : p < w.heap.size + 1 := by omega
  have hl2 : p < w.heap.size + 1 + 1 := by omega
  go_enter Try.func96, Try.ntmps96
  go_wp2_with (go_at_call 98; refine (ints3_any _ _ _ hx hy).mono ?_; rintro e w' ⟨rfl, g, rfl⟩)
  go_returns
  exact ⟨rfl, more_of_below (by repeat' (first | (with_reducible exact Below.refl _ _) | (with_reducible assumption) | (with_reducible refine below_more ?_ ?_ _) | (with_reducible refine below_drewN ?_ _) | (with_reducible refine Below.drew ?_) | (with_reducible refine Below.alloc ?_ ?_ _) | (with_reducible refine Below.setCell ?_ ?_ _) | go_size))⟩

theorem ints4_any (x y : Int) (w : World) (hx : -2147483648 ≤ x ∧ x < 2147483648) (hy : -2147483648 ≤ y ∧ y < 2147483648) :
    Calls Try.prog 99 #[.int .i64 x, .int .i64 y] w fun e w' => e = .returned (Sp.R (Sp.fitsF (x * y))) ∧ ∃ g, w' = more w g := by
  have hm := mul_bd x y hx hy
  go_enter Try.func99, Try.ntmps99
  go_wp2_with (first | (go_at_call 80; refine (fits_any _ _).mono ?_; rintro e w' ⟨rfl, g, rfl⟩) | (go_at_call 101; refine (divides_any _ _ _ _ hx hy).mono ?_; rintro e w' ⟨rfl, g, rfl⟩))
  go_returns
  exact ⟨rfl, more_of_below (by repeat' (first | (with_reducible exact Below.refl _ _) | (with_reducible assumption) | (with_reducible refine below_more ?_ ?_ _) | (with_reducible refine below_drewN ?_ _) | (with_reducible refine Below.drew ?_) | (with_reducible refine Below.alloc ?_ ?_ _) | (with_reducible refine Below.setCell ?_ ?_ _) | go_size))⟩
theorem ints11_4 (p : Nat) (f f' x y : Int) (t t' : ByteArray) (w : World) (hx : -2147483648 ≤ x ∧ x < 2147483648) (hy : -2147483648 ≤ y ∧ y < 2147483648) (hp : w.cell? ⟨p, 0, none⟩ = some (.func (.func 99) #[] #[])) (hl : p < w.heap.size) :
    Calls Try.prog 96 #[.agg #[.int .i64 f, .int .i64 x, .string t], .agg #[.int .i64 f', .int .i64 y, .string t'], .pointer (some ⟨p, 0, none⟩)] w fun e w' => e = .returned (Sp.R (Sp.fitsF (x * y))) ∧ ∃ g, w' = more w g := by
  have hl1 : p < w.heap.size + 1 := by omega
  have hl2 : p < w.heap.size + 1 + 1 := by omega
  go_enter Try.func96, Try.ntmps96
  go_wp2_with (go_at_call 99; refine (ints4_any _ _ _ hx hy).mono ?_; rintro e w' ⟨rfl, g, rfl⟩)
  go_returns
  exact ⟨rfl, more_of_below (by repeat' (first | (with_reducible exact Below.refl _ _) | (with_reducible assumption) | (with_reducible refine below_more ?_ ?_ _) | (with_reducible refine below_drewN ?_ _) | (with_reducible refine Below.drew ?_) | (with_reducible refine Below.alloc ?_ ?_ _) | (with_reducible refine Below.setCell ?_ ?_ _) | go_size))⟩

theorem ints5_any (x y : Int) (w : World) (hx : -2147483648 ≤ x ∧ x < 2147483648) (hy : -2147483648 ≤ y ∧ y < 2147483648) :
    Calls Try.prog 100 #[.int .i64 x, .int .i64 y] w fun e w' => e = .returned (Sp.R (Sp.divF x y true)) ∧ ∃ g, w' = more w g := by
  go_enter Try.func100, Try.ntmps100
  go_wp2_with (first | (go_at_call 80; refine (fits_any _ _).mono ?_; rintro e w' ⟨rfl, g, rfl⟩) | (go_at_call 101; refine (divides_any _ _ _ _ hx hy).mono ?_; rintro e w' ⟨rfl, g, rfl⟩))
  go_returns
  exact ⟨rfl, more_of_below (by repeat' (first | (with_reducible exact Below.refl _ _) | (with_reducible assumption) | (with_reducible refine below_more ?_ ?_ _) | (with_reducible refine below_drewN ?_ _) | (with_reducible refine Below.drew ?_) | (with_reducible refine Below.alloc ?_ ?_ _) | (with_reducible refine Below.setCell ?_ ?_ _) | go_size))⟩
theorem ints11_5 (p : Nat) (f f' x y : Int) (t t' : ByteArray) (w : World) (hx : -2147483648 ≤ x ∧ x < 2147483648) (hy : -2147483648 ≤ y ∧ y < 2147483648) (hp : w.cell? ⟨p, 0, none⟩ = some (.func (.func 100) #[] #[])) (hl : p < w.heap.size) :
    Calls Try.prog 96 #[.agg #[.int .i64 f, .int .i64 x, .string t], .agg #[.int .i64 f', .int .i64 y, .string t'], .pointer (some ⟨p, 0, none⟩)] w fun e w' => e = .returned (Sp.R (Sp.divF x y true)) ∧ ∃ g, w' = more w g := by
  have hl1 : p < w.heap.size + 1 := by omega
  have hl2 : p < w.heap.size + 1 + 1 := by omega
  go_enter Try.func96, Try.ntmps96
  go_wp2_with (go_at_call 100; refine (ints5_any _ _ _ hx hy).mono ?_; rintro e w' ⟨rfl, g, rfl⟩)
  go_returns
  exact ⟨rfl, more_of_below (by repeat' (first | (with_reducible exact Below.refl _ _) | (with_reducible assumption) | (with_reducible refine below_more ?_ ?_ _) | (with_reducible refine below_drewN ?_ _) | (with_reducible refine Below.drew ?_) | (with_reducible refine Below.alloc ?_ ?_ _) | (with_reducible refine Below.setCell ?_ ?_ _) | go_size))⟩

theorem ints6_any (x y : Int) (w : World) (hx : -2147483648 ≤ x ∧ x < 2147483648) (hy : -2147483648 ≤ y ∧ y < 2147483648) :
    Calls Try.prog 102 #[.int .i64 x, .int .i64 y] w fun e w' => e = .returned (Sp.R (Sp.divF x y false)) ∧ ∃ g, w' = more w g := by
  go_enter Try.func102, Try.ntmps102
  go_wp2_with (first | (go_at_call 80; refine (fits_any _ _).mono ?_; rintro e w' ⟨rfl, g, rfl⟩) | (go_at_call 101; refine (divides_any _ _ _ _ hx hy).mono ?_; rintro e w' ⟨rfl, g, rfl⟩))
  go_returns
  exact ⟨rfl, more_of_below (by repeat' (first | (with_reducible exact Below.refl _ _) | (with_reducible assumption) | (with_reducible refine below_more ?_ ?_ _) | (with_reducible refine below_drewN ?_ _) | (with_reducible refine Below.drew ?_) | (with_reducible refine Below.alloc ?_ ?_ _) | (with_reducible refine Below.setCell ?_ ?_ _) | go_size))⟩
theorem ints11_6 (p : Nat) (f f' x y : Int) (t t' : ByteArray) (w : World) (hx : -2147483648 ≤ x ∧ x < 2147483648) (hy : -2147483648 ≤ y ∧ y < 2147483648) (hp : w.cell? ⟨p, 0, none⟩ = some (.func (.func 102) #[] #[])) (hl : p < w.heap.size) :
    Calls Try.prog 96 #[.agg #[.int .i64 f, .int .i64 x, .string t], .agg #[.int .i64 f', .int .i64 y, .string t'], .pointer (some ⟨p, 0, none⟩)] w fun e w' => e = .returned (Sp.R (Sp.divF x y false)) ∧ ∃ g, w' = more w g := by
  have hl1 : p < w.heap.size + 1 := by omega
  have hl2 : p < w.heap.size + 1 + 1 := by omega
  go_enter Try.func96, Try.ntmps96
  go_wp2_with (go_at_call 102; refine (ints6_any _ _ _ hx hy).mono ?_; rintro e w' ⟨rfl, g, rfl⟩)
  go_returns
  exact ⟨rfl, more_of_below (by repeat' (first | (with_reducible exact Below.refl _ _) | (with_reducible assumption) | (with_reducible refine below_more ?_ ?_ _) | (with_reducible refine below_drewN ?_ _) | (with_reducible refine Below.drew ?_) | (with_reducible refine Below.alloc ?_ ?_ _) | (with_reducible refine Below.setCell ?_ ?_ _) | go_size))⟩
end Go.Proofs.Ythcpedonpiihnaa
