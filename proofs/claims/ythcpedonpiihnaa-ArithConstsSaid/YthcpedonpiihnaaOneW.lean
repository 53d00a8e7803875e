/- The walks of consts.One and of the document's One: the same plain function. Conditions: numbers lie in their bounds; texts are shorter than a text may be. -/
import Derived.Test.YthcpedonpiihnaaRefQ
import Derived.Test.YthcpedonpiihnaaConQ
namespace Go.Proofs.Ythcpedonpiihnaa
set_option linter.all false
open Go.RowKit
namespace Sp
def oneF (op : List UInt8) (f n : Int) (t : List UInt8) : Int × Int × Int :=
  if good f n t = true then
    (if (f == 1) = true then (if (op == [43]) = true then (1, n, 0) else if (op == [45]) = true then fitsF (-n) else (0, 0, 120))
     else if (f == 4) = true then (if (op == [45]) = true then (4, 4294967295 - n, 0) else (0, 0, 120))
     else if (f == 2) = true then (if (op == [126]) = true then (2, tn (n == 0), 0) else (0, 0, 120))
     else (0, 0, 120))
  else (0, 0, 120)
end Sp
theorem u32_not (n : Int) (h0 : 0 ≤ n) (h1 : n < 4294967296) : bits .xor .u32 IntKind.u32.max n = 4294967295 - n := by
  show IntKind.u32.wrap ((BitVec.ofInt 32 IntKind.u32.max ^^^ BitVec.ofInt 32 n).toNat : Int) = _
  rw [show BitVec.ofInt 32 IntKind.u32.max = BitVec.allOnes 32 from by decide, BitVec.allOnes_xor, BitVec.toNat_not, BitVec.toNat_ofInt]
  simp [IntKind.wrap, IntKind.bits, IntKind.signed]
  omega
set_option maxRecDepth 100000 in
set_option maxHeartbeats 1600000 in
theorem One_any (op : ByteArray) (f n : Int) (t : ByteArray) (w : World) (st : t.size < 4294967281) (n0 : -9223372036854775808 ≤ n) (n1 : n < 9223372036854775808) :
    Calls Try.prog 31 #[.string op, .agg #[.int .i64 f, .int .i64 n, .string t]] w fun e w' => e = .returned (Sp.R (Sp.oneF op.toList f n t.data.toList)) ∧ ∃ g, w' = more w g := by
  cases hg : Sp.good f n t.data.toList
  · go_enter Try.func31, Try.ntmps31
    go_wp2_with (first | (go_at_call 33; refine (Good_any _ _ _ _ (by assumption) (by assumption) (by assumption)).mono ?_; rintro e w' ⟨rfl, g, rfl⟩))
    go_returns
    exact ⟨by simp [Sp.oneF, hg], more_of_below (by repeat' (first | (with_reducible exact Below.refl _ _) | (with_reducible assumption) | (with_reducible refine below_more ?_ ?_ _) | (with_reducible refine below_drewN ?_ _) | (with_reducible refine Below.drew ?_) | (with_reducible refine Below.alloc ?_ ?_ _) | (with_reducible refine Below.setCell ?_ ?_ _) | go_size | (simp [more_size]; done) | (simp [more_size]; omega)))⟩
  · by_cases h1 : f = 1
    · subst h1
      have ht : t = ⟨#[]⟩ := bytes_ext (Sp.good_text hg (by decide))
      have hb := Sp.good_1 hg
      subst ht
      go_enter Try.func31, Try.ntmps31
      go_wp2_with (first | (go_at_call 33; refine (Good_any _ _ _ _ (by assumption) (by assumption) (by assumption)).mono ?_; rintro e w' ⟨rfl, g, rfl⟩) | (go_at_call 80; refine (fits_any _ _).mono ?_; rintro e w' ⟨rfl, g, rfl⟩))
      all_goals
        go_returns
        exact ⟨by first | (simp [Sp.oneF, *]; done) | (exfalso; simp_all; done), more_of_below (by repeat' (first | (with_reducible exact Below.refl _ _) | (with_reducible assumption) | (with_reducible refine below_more ?_ ?_ _) | (with_reducible refine below_drewN ?_ _) | (with_reducible refine Below.drew ?_) | (with_reducible refine Below.alloc ?_ ?_ _) | (with_reducible refine Below.setCell ?_ ?_ _) | go_size | (simp [more_size]; done) | (simp [more_size]; omega)))⟩
    · have h1' : (f == 1) = false := by simpa using h1
      by_cases h4 : f = 4
      · subst h4
        have ht : t = ⟨#[]⟩ := bytes_ext (Sp.good_text hg (by decide))
        obtain ⟨b0, b1⟩ := Sp.good_4 hg
        have hn := u32_not n b0 b1
        have hn2 : 0 ≤ 4294967295 - n := by omega
        have hn3 : 4294967295 - n < 4294967296 := by omega
        subst ht
        clear h1 h1'
        go_enter Try.func31, Try.ntmps31
        go_wp2_with (first | (go_at_call 33; refine (Good_any _ _ _ _ (by assumption) (by assumption) (by assumption)).mono ?_; rintro e w' ⟨rfl, g, rfl⟩) | (go_at_call 63; refine (cset_any _ _ (by omega) (by omega)).mono ?_; rintro e w' ⟨rfl, g, rfl⟩))
        all_goals
          go_returns
          exact ⟨by first | (simp [Sp.oneF, *]; done) | (exfalso; simp_all; done), more_of_below (by repeat' (first | (with_reducible exact Below.refl _ _) | (with_reducible assumption) | (with_reducible refine below_more ?_ ?_ _) | (with_reducible refine below_drewN ?_ _) | (with_reducible refine Below.drew ?_) | (with_reducible refine Below.alloc ?_ ?_ _) | (with_reducible refine Below.setCell ?_ ?_ _) | go_size | (simp [more_size]; done) | (simp [more_size]; omega)))⟩
      · have h4' : (f == 4) = false := by simpa using h4
        by_cases h2 : f = 2
        · subst h2
          have ht : t = ⟨#[]⟩ := bytes_ext (Sp.good_text hg (by decide))
          subst ht
          clear h1 h1' h4 h4'
          go_enter Try.func31, Try.ntmps31
          go_wp2_with (first | (go_at_call 33; refine (Good_any _ _ _ _ (by assumption) (by assumption) (by assumption)).mono ?_; rintro e w' ⟨rfl, g, rfl⟩) | (go_at_call 53; refine (truth_any _ _).mono ?_; rintro e w' ⟨rfl, g, rfl⟩))
          all_goals
            go_returns
            exact ⟨by first | (simp [Sp.oneF, *]; done) | (exfalso; simp_all; done), more_of_below (by repeat' (first | (with_reducible exact Below.refl _ _) | (with_reducible assumption) | (with_reducible refine below_more ?_ ?_ _) | (with_reducible refine below_drewN ?_ _) | (with_reducible refine Below.drew ?_) | (with_reducible refine Below.alloc ?_ ?_ _) | (with_reducible refine Below.setCell ?_ ?_ _) | go_size | (simp [more_size]; done) | (simp [more_size]; omega)))⟩
        · have h2' : (f == 2) = false := by simpa using h2
          clear h1 h2 h4
          go_enter Try.func31, Try.ntmps31
          go_wp2_with (first | (go_at_call 33; refine (Good_any _ _ _ _ (by assumption) (by assumption) (by assumption)).mono ?_; rintro e w' ⟨rfl, g, rfl⟩))
          all_goals
            go_returns
            exact ⟨by first | (simp [Sp.oneF, *]; done) | (exfalso; simp_all; done), more_of_below (by repeat' (first | (with_reducible exact Below.refl _ _) | (with_reducible assumption) | (with_reducible refine below_more ?_ ?_ _) | (with_reducible refine below_drewN ?_ _) | (with_reducible refine Below.drew ?_) | (with_reducible refine Below.alloc ?_ ?_ _) | (with_reducible refine Below.setCell ?_ ?_ _) | go_size | (simp [more_size]; done) | (simp [more_size]; omega)))⟩
set_option maxRecDepth 100000 in
set_option maxHeartbeats 1600000 in
theorem rOne_any (op : ByteArray) (f n : Int) (t : ByteArray) (w : World) (st : t.size < 4294967281) (n0 : -9223372036854775808 ≤ n) (n1 : n < 9223372036854775808) :
    Calls Try.prog 32 #[.string op, .agg #[.int .i64 f, .int .i64 n, .string t]] w fun e w' => e = .returned (Sp.R (Sp.oneF op.toList f n t.data.toList)) ∧ ∃ g, w' = more w g := by
  cases hg : Sp.good f n t.data.toList
  · go_enter Try.func32, Try.ntmps32
    go_wp2_with (first | (go_at_call 34; refine (rGood_any _ _ _ _ (by assumption) (by assumption) (by assumption)).mono ?_; rintro e w' ⟨rfl, g, rfl⟩) | (go_at_call 54; refine (rnone_any _).mono ?_; rintro e w' ⟨rfl, g, rfl⟩))
    go_returns
    exact ⟨by simp [Sp.oneF, hg], more_of_below (by repeat' (first | (with_reducible exact Below.refl _ _) | (with_reducible assumption) | (with_reducible refine below_more ?_ ?_ _) | (with_reducible refine below_drewN ?_ _) | (with_reducible refine Below.drew ?_) | (with_reducible refine Below.alloc ?_ ?_ _) | (with_reducible refine Below.setCell ?_ ?_ _) | go_size | (simp [more_size]; done) | (simp [more_size]; omega)))⟩
  · by_cases h1 : f = 1
    · subst h1
      have ht : t = ⟨#[]⟩ := bytes_ext (Sp.good_text hg (by decide))
      have hb := Sp.good_1 hg
      subst ht
      go_enter Try.func32, Try.ntmps32
      go_wp2_with (first | (go_at_call 34; refine (rGood_any _ _ _ _ (by assumption) (by assumption) (by assumption)).mono ?_; rintro e w' ⟨rfl, g, rfl⟩) | (go_at_call 54; refine (rnone_any _).mono ?_; rintro e w' ⟨rfl, g, rfl⟩) | (go_at_call 81; refine (rinteger_any _ _).mono ?_; rintro e w' ⟨rfl, g, rfl⟩))
      all_goals
        go_returns
        exact ⟨by first | (simp [Sp.oneF, *]; done) | (exfalso; simp_all; done), more_of_below (by repeat' (first | (with_reducible exact Below.refl _ _) | (with_reducible assumption) | (with_reducible refine below_more ?_ ?_ _) | (with_reducible refine below_drewN ?_ _) | (with_reducible refine Below.drew ?_) | (with_reducible refine Below.alloc ?_ ?_ _) | (with_reducible refine Below.setCell ?_ ?_ _) | go_size | (simp [more_size]; done) | (simp [more_size]; omega)))⟩
    · have h1' : (f == 1) = false := by simpa using h1
      by_cases h4 : f = 4
      · subst h4
        have ht : t = ⟨#[]⟩ := bytes_ext (Sp.good_text hg (by decide))
        obtain ⟨b0, b1⟩ := Sp.good_4 hg
        have hn := u32_not n b0 b1
        have hn2 : 0 ≤ 4294967295 - n := by omega
        have hn3 : 4294967295 - n < 4294967296 := by omega
        subst ht
        clear h1 h1'
        go_enter Try.func32, Try.ntmps32
        go_wp2_with (first | (go_at_call 34; refine (rGood_any _ _ _ _ (by assumption) (by assumption) (by assumption)).mono ?_; rintro e w' ⟨rfl, g, rfl⟩) | (go_at_call 54; refine (rnone_any _).mono ?_; rintro e w' ⟨rfl, g, rfl⟩) | (go_at_call 62; refine (rcset_any _ _ (by omega) (by omega)).mono ?_; rintro e w' ⟨rfl, g, rfl⟩))
        all_goals
          go_returns
          exact ⟨by first | (simp [Sp.oneF, *]; done) | (exfalso; simp_all; done), more_of_below (by repeat' (first | (with_reducible exact Below.refl _ _) | (with_reducible assumption) | (with_reducible refine below_more ?_ ?_ _) | (with_reducible refine below_drewN ?_ _) | (with_reducible refine Below.drew ?_) | (with_reducible refine Below.alloc ?_ ?_ _) | (with_reducible refine Below.setCell ?_ ?_ _) | go_size | (simp [more_size]; done) | (simp [more_size]; omega)))⟩
      · have h4' : (f == 4) = false := by simpa using h4
        by_cases h2 : f = 2
        · subst h2
          have ht : t = ⟨#[]⟩ := bytes_ext (Sp.good_text hg (by decide))
          subst ht
          clear h1 h1' h4 h4'
          go_enter Try.func32, Try.ntmps32
          go_wp2_with (first | (go_at_call 34; refine (rGood_any _ _ _ _ (by assumption) (by assumption) (by assumption)).mono ?_; rintro e w' ⟨rfl, g, rfl⟩) | (go_at_call 54; refine (rnone_any _).mono ?_; rintro e w' ⟨rfl, g, rfl⟩) | (go_at_call 56; refine (rtruth_any _ _).mono ?_; rintro e w' ⟨rfl, g, rfl⟩))
          all_goals
            go_returns
            exact ⟨by first | (simp [Sp.oneF, *]; done) | (exfalso; simp_all; done), more_of_below (by repeat' (first | (with_reducible exact Below.refl _ _) | (with_reducible assumption) | (with_reducible refine below_more ?_ ?_ _) | (with_reducible refine below_drewN ?_ _) | (with_reducible refine Below.drew ?_) | (with_reducible refine Below.alloc ?_ ?_ _) | (with_reducible refine Below.setCell ?_ ?_ _) | go_size | (simp [more_size]; done) | (simp [more_size]; omega)))⟩
        · have h2' : (f == 2) = false := by simpa using h2
          clear h1 h2 h4
          go_enter Try.func32, Try.ntmps32
          go_wp2_with (first | (go_at_call 34; refine (rGood_any _ _ _ _ (by assumption) (by assumption) (by assumption)).mono ?_; rintro e w' ⟨rfl, g, rfl⟩) | (go_at_call 54; refine (rnone_any _).mono ?_; rintro e w' ⟨rfl, g, rfl⟩))
          all_goals
            go_returns
            exact ⟨by first | (simp [Sp.oneF, *]; done) | (exfalso; simp_all; done), more_of_below (by repeat' (first | (with_reducible exact Below.refl _ _) | (with_reducible assumption) | (with_reducible refine below_more ?_ ?_ _) | (with_reducible refine below_drewN ?_ _) | (with_reducible refine Below.drew ?_) | (with_reducible refine Below.alloc ?_ ?_ _) | (with_reducible refine Below.setCell ?_ ?_ _) | go_size | (simp [more_size]; done) | (simp [more_size]; omega)))⟩
end Go.Proofs.Ythcpedonpiihnaa
