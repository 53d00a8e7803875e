/- The walk of the law ConstsAlgebra, another case. Conditions: words and numbers lie in their bounds. -/
import Derived.Test.YthcpedonpiihnaaLwG
namespace Go.Proofs.Ythcpedonpiihnaa
set_option linter.all false
open Go.RowKit
theorem reads_p1 {w : World} {b : Nat} {x y : Int} (hb : b < w.heap.size) (h0 : w.cell? ⟨b, 0, none⟩ = some (.int .i64 x)) (h1 : w.cell? ⟨b, 1, none⟩ = some (.int .i64 y)) :
    Reads w (.slice (some ⟨b, 0, none⟩) 1 1) [(x, y)].length 2 (pairCells [(x, y)]) := by
  refine ⟨rfl, .inr ⟨b, 0, 1, rfl, by simp, by decide, hb, fun j u hu => ?_⟩⟩
  have : j < 2 := by simpa [pairCells] using (List.getElem?_eq_some_iff.1 hu).1
  match j, this with
  | 0, _ => simp [pairCells] at hu; subst hu; exact h0
  | 1, _ => simp [pairCells] at hu; subst hu; exact h1
set_option maxRecDepth 100000 in
set_option maxHeartbeats 6400000 in
theorem Algebra_in (a b : Int) (n : Nat) (w : World) (a0 : 0 ≤ a) (a1 : a < 4294967296) (b0 : 0 ≤ b) (b1 : b < 4294967296) (hn : n < 32) :
    Calls Try.prog 10 #[.int .u32 a, .int .u32 b, .int .i64 n] w fun e w' => e = .returned (.bool true) ∧ Below w.heap.size w w' := by
  obtain ⟨d0, d1⟩ := Sp.sub_bd a b a0 a1 b0 b1
  obtain ⟨e0, e1⟩ := Sp.sub_bd b a b0 b1 a0 a1
  have H1 := Lib.hid (Two_sets (op := ⟨#[45]⟩) (Sp.two_sub a0 a1 b0 b1) (by decide) a0 a1 b0 b1)
  have H2 := Lib.hid (One_at (op := ⟨#[45]⟩) (t := ⟨#[]⟩) (f := 4) (n := b) (Sp.one_not b0 b1) (by decide) (by omega) (by omega))
  have H3 := Lib.hid (Two_sets (op := ⟨#[42]⟩) ((Sp.two_and (b := 4294967295 - b) a0 a1 (by omega) (by omega)).trans (by rw [Sp.sub_and a b a0 a1 b0 b1])) (by decide) a0 a1 (by omega) (by omega))
  have H4 := Lib.hid (Two_sets (op := ⟨#[45]⟩) (Sp.two_sub b0 b1 a0 a1) (by decide) b0 b1 a0 a1)
  have H5 := Lib.hid (Two_sets (op := ⟨#[43]⟩) ((Sp.two_or d0 d1 e0 e1).trans (by rw [Sp.xor_sub a b a0 a1 b0 b1])) (by decide) d0 d1 e0 e1)
  have H6 := Lib.hid (Two_sets (op := ⟨#[47]⟩) (Sp.two_xor a0 a1 b0 b1) (by decide) a0 a1 b0 b1)
  have hi := Sp.one_in a n hn a0 a1
  have hp := Sp.put_u32 0 n hn (by omega) (by omega)
  have H7 := Lib.hid (Two_in (n := n) (b := a) (r := (2, Sp.tn (a / 2 ^ n % 2 == 1), 0)) ((Sp.two_in a0 a1 (by simp [Sp.fit]; omega)).trans (show Sp.inF n a = _ by unfold Sp.inF; rw [if_neg (by omega)]; simp)) (by omega) (by omega) a0 a1)
  have H8 := Lib.hid (Two_sets (op := ⟨#[42]⟩) (Sp.two_and hp.1 hp.2 a0 a1) (by decide) hp.1 hp.2 a0 a1)
  have HS := Lib.hid (show Sp.setL [((n : Int), (n : Int))] 0 = (4, Sp.put 0 n 1 1, 0) by
    have hb : Sp.bad n n = false := by simp [Sp.bad]; omega
    simp only [Sp.setL, hb, Bool.false_eq_true, if_false]
    rw [show ((n : Int) + 1 - n).toNat = 1 from by omega, Int.toNat_natCast]
    rfl)
  have n0 : (0 : Int) ≤ n := by omega
  have n1 : (n : Int) ≤ 31 := by omega
  have n2 : ¬ ((n : Int) < -2147483648) := by omega
  have n3 : ¬ (2147483648 ≤ (n : Int)) := by omega
  have n4 : ¬ ((n : Int) < 0) := by omega
  have n5 : ¬ (31 < (n : Int)) := by omega
  generalize Sp.tn (a / 2 ^ n % 2 == 1) = Q at *
  generalize Sp.put 0 n 1 1 = Z at *
  have HSS := Lib.hid (fun (p : Nat) (V : World) h0 h1 h2 => set_at (v := .slice (some ⟨p, 0, none⟩) 1 1) (ps := [((n : Int), (n : Int))]) HS.out (Nat.le_of_ble_eq_true rfl) V (reads_p1 (w := V) (b := p) h0 h1 h2))
  clear HS
  generalize bits .and .u32 Z a = T at *
  have HI := Lib.hid hi
  clear hi hp
  generalize bits .andNot .u32 a b = D at *
  generalize bits .andNot .u32 b a = E at *
  generalize bits .xor .u32 a b = X at *
  clear d0 d1 e0 e1
  generalize hm : (n : Int) = m at *
  clear hm
  go_enter Try.func10, Try.ntmps10
  go_wp2_with (first | (go_at_call 35; refine (lset_any _ _ (by omega) (by omega)).mono ?_; rintro e w' ⟨rfl, g, rfl⟩) | (go_at_call 23; refine (lnum_any _ _).mono ?_; rintro e w' ⟨rfl, g, rfl⟩) | (go_at_call 31; ((with_reducible refine (H2.out _).mono ?_); rintro e w' ⟨rfl, g, rfl⟩)) | (go_at_call 18; ((with_reducible refine (H1.out _).mono ?_); rintro e w' ⟨rfl, g, rfl⟩)) | (go_at_call 18; ((with_reducible refine (H3.out _).mono ?_); rintro e w' ⟨rfl, g, rfl⟩)) | (go_at_call 18; ((with_reducible refine (H4.out _).mono ?_); rintro e w' ⟨rfl, g, rfl⟩)) | (go_at_call 18; ((with_reducible refine (H5.out _).mono ?_); rintro e w' ⟨rfl, g, rfl⟩)) | (go_at_call 18; ((with_reducible refine (H6.out _).mono ?_); rintro e w' ⟨rfl, g, rfl⟩)) | (go_at_call 18; ((with_reducible refine (H7.out _).mono ?_); rintro e w' ⟨rfl, g, rfl⟩)) | (go_at_call 20; refine (Same_eq _ _ _ _).mono ?_; rintro e w' ⟨rfl, g, rfl⟩) | (go_at_call 17; refine (wakes12_any _).mono ?_; rintro e w3 ⟨rfl, g, rfl⟩))
  go_region_with (first | (go_at_call 35; refine (lset_any _ _ (by omega) (by omega)).mono ?_; rintro e w' ⟨rfl, g, rfl⟩) | (go_at_call 23; refine (lnum_any _ _).mono ?_; rintro e w' ⟨rfl, g, rfl⟩) | (go_at_call 31; ((with_reducible refine (H2.out _).mono ?_); rintro e w' ⟨rfl, g, rfl⟩)) | (go_at_call 18; ((with_reducible refine (H1.out _).mono ?_); rintro e w' ⟨rfl, g, rfl⟩)) | (go_at_call 18; ((with_reducible refine (H3.out _).mono ?_); rintro e w' ⟨rfl, g, rfl⟩)) | (go_at_call 18; ((with_reducible refine (H4.out _).mono ?_); rintro e w' ⟨rfl, g, rfl⟩)) | (go_at_call 18; ((with_reducible refine (H5.out _).mono ?_); rintro e w' ⟨rfl, g, rfl⟩)) | (go_at_call 18; ((with_reducible refine (H6.out _).mono ?_); rintro e w' ⟨rfl, g, rfl⟩)) | (go_at_call 18; ((with_reducible refine (H7.out _).mono ?_); rintro e w' ⟨rfl, g, rfl⟩)) | (go_at_call 20; refine (Same_eq _ _ _ _).mono ?_; rintro e w' ⟨rfl, g, rfl⟩) | (go_at_call 17; refine (wakes12_any _).mono ?_; rintro e w3 ⟨rfl, g, rfl⟩))
  all_goals (go_wp2_with (first | (go_at_call 35; refine (lset_any _ _ (by omega) (by omega)).mono ?_; rintro e w' ⟨rfl, g, rfl⟩) | (go_at_call 23; refine (lnum_any _ _).mono ?_; rintro e w' ⟨rfl, g, rfl⟩) | (go_at_call 31; ((with_reducible refine (H2.out _).mono ?_); rintro e w' ⟨rfl, g, rfl⟩)) | (go_at_call 18; ((with_reducible refine (H1.out _).mono ?_); rintro e w' ⟨rfl, g, rfl⟩)) | (go_at_call 18; ((with_reducible refine (H3.out _).mono ?_); rintro e w' ⟨rfl, g, rfl⟩)) | (go_at_call 18; ((with_reducible refine (H4.out _).mono ?_); rintro e w' ⟨rfl, g, rfl⟩)) | (go_at_call 18; ((with_reducible refine (H5.out _).mono ?_); rintro e w' ⟨rfl, g, rfl⟩)) | (go_at_call 18; ((with_reducible refine (H6.out _).mono ?_); rintro e w' ⟨rfl, g, rfl⟩)) | (go_at_call 18; ((with_reducible refine (H7.out _).mono ?_); rintro e w' ⟨rfl, g, rfl⟩)) | (go_at_call 20; refine (Same_eq _ _ _ _).mono ?_; rintro e w' ⟨rfl, g, rfl⟩) | (go_at_call 17; refine (wakes12_any _).mono ?_; rintro e w3 ⟨rfl, g, rfl⟩) | (go_at_call 18; ((with_reducible refine (H8.out _).mono ?_); rintro e w' ⟨rfl, g, rfl⟩))))
  all_goals (refine (HSS.out _ _ ?_ ?_ ?_).mono ?_; (focus (simp [go_sem]; done)); (focus (simp [go_sem]; done)); (focus (simp [go_sem]; done)); rintro e w' ⟨rfl, g, rfl⟩)
  all_goals (have hi := HI.out)
  all_goals (go_wp2_with (first | (go_at_call 35; refine (lset_any _ _ (by omega) (by omega)).mono ?_; rintro e w' ⟨rfl, g, rfl⟩) | (go_at_call 23; refine (lnum_any _ _).mono ?_; rintro e w' ⟨rfl, g, rfl⟩) | (go_at_call 31; ((with_reducible refine (H2.out _).mono ?_); rintro e w' ⟨rfl, g, rfl⟩)) | (go_at_call 18; ((with_reducible refine (H1.out _).mono ?_); rintro e w' ⟨rfl, g, rfl⟩)) | (go_at_call 18; ((with_reducible refine (H3.out _).mono ?_); rintro e w' ⟨rfl, g, rfl⟩)) | (go_at_call 18; ((with_reducible refine (H4.out _).mono ?_); rintro e w' ⟨rfl, g, rfl⟩)) | (go_at_call 18; ((with_reducible refine (H5.out _).mono ?_); rintro e w' ⟨rfl, g, rfl⟩)) | (go_at_call 18; ((with_reducible refine (H6.out _).mono ?_); rintro e w' ⟨rfl, g, rfl⟩)) | (go_at_call 18; ((with_reducible refine (H7.out _).mono ?_); rintro e w' ⟨rfl, g, rfl⟩)) | (go_at_call 20; refine (Same_eq _ _ _ _).mono ?_; rintro e w' ⟨rfl, g, rfl⟩) | (go_at_call 17; refine (wakes12_any _).mono ?_; rintro e w3 ⟨rfl, g, rfl⟩) | (go_at_call 18; ((with_reducible refine (H8.out _).mono ?_); rintro e w' ⟨rfl, g, rfl⟩))))
  all_goals go_ret
  all_goals exact ⟨rfl, (by repeat' (first | (with_reducible exact Below.refl _ _) | (with_reducible assumption) | (with_reducible refine below_more ?_ ?_ _) | (with_reducible refine below_drewN ?_ _) | (with_reducible refine Below.drew ?_) | (with_reducible refine Below.alloc ?_ ?_ _) | (with_reducible refine Below.setCell ?_ ?_ _) | go_size | (simp [more_size]; done) | (simp [more_size]; omega)))⟩
end Go.Proofs.Ythcpedonpiihnaa
