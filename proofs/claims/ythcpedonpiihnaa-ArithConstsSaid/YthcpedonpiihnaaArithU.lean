/- The walks of arith.Call, of the document's Int and Call (ref20), and of the laws of layer 20. Conditions: texts are shorter than 2 to the 32nd. -/
import Derived.Test.YthcpedonpiihnaaArithV
namespace Go.Proofs.Ythcpedonpiihnaa
set_option linter.unusedSimpArgs false
set_option linter.unusedVariables false
open Go.RowKit
theorem ret_val {a b : Value} (h : a = b) : Ending.returned a = .returned b := by rw [h]
theorem i64_and1 (x : Int) : bits .and .i64 x 1 = x % 2 := by
  show IntKind.i64.wrap ((BitVec.ofInt 64 x &&& BitVec.ofInt 64 1).toNat : Int) = _
  rw [BitVec.toNat_and, BitVec.toNat_ofInt]
  rw [show (BitVec.ofInt 64 1).toNat = 1 from rfl, Nat.and_one_is_mod]
  rw [IntWalk.i64_in _ (by omega)]
  omega
theorem sgn_congr (a b : Int) (h : a % 4294967296 = b % 4294967296) : Sp.sgn (a % 4294967296) = Sp.sgn (b % 4294967296) := by rw [h]
theorem sgn_mod_self (v : Int) (h : -2147483648 ≤ v ∧ v < 2147483648) : Sp.sgn (v % 4294967296) = v := Sp.sgn_word v ((Sp.fit_iff v).2 h)
set_option maxHeartbeats 800000 in
theorem call_any (name : ByteArray) (a b : Int) (w : World) :
    Calls Try.prog 42 #[.string name, .int .i64 a, .int .i64 b] w fun e w' => e = .returned (Sp.nb (Sp.call name.toList a b)) ∧ w = w' := by
  have hsa := Sp.sgn_bd (a % 4294967296) (by omega) (by omega)
  have hwa := Sp.sgn_mod a
  have hand := fun x => i64_and1 x
  generalize hX : Sp.sgn (a % 4294967296) = x at *
  have HX := Lib.hid hX; clear hX
  have hla := Sp.lsl_bd (a % 4294967296) (b % 4294967296)
  have haa := Sp.asr_bd (a % 4294967296) (b % 4294967296)
  have hra := Sp.ror_bd (a % 4294967296) (b % 4294967296) (by omega) (by omega)
  have H1 := Lib.hid (show Sp.sgn (max x (-x) % 4294967296) = Sp.sgn ((if x < 0 then -x else x) % 4294967296) by congr 2; split <;> omega)
  have H2 := Lib.hid (show x % 2 = a % 2 by omega)
  have H3 := Lib.hid (show x % 256 = a % 256 by omega)
  go_enter Try.func42, Try.ntmps42
  go_wp2_with (first | (go_at_call 69; refine (round_any _ _).mono ?_; (try rw [HX.out]); rintro e w' ⟨rfl, rfl⟩) | (go_at_call 85; refine (word_any _ _).mono ?_; (try rw [hwa]); rintro e w' ⟨rfl, rfl⟩) | (go_at_call 86; refine (signed_any _ _ (by omega) (by omega)).mono ?_; rintro e w' ⟨rfl, rfl⟩) | (go_at_call 87; refine (lsl_any _ _ _ (by omega) (by omega)).mono ?_; rintro e w' ⟨rfl, rfl⟩) | (go_at_call 88; refine (asr_any _ _ _ (by omega) (by omega) (by omega) (by omega)).mono ?_; rintro e w' ⟨rfl, rfl⟩) | (go_at_call 89; refine (ror_any _ _ _ (by omega) (by omega) (by omega) (by omega)).mono ?_; rintro e w' ⟨rfl, rfl⟩))
  all_goals
    go_ret2
    exact ⟨ret_val (by simp only [Sp.nb, Sp.call, HX.out]; simp [*, H1.out, H2.out, H3.out]; done), rfl⟩
set_option maxHeartbeats 800000 in
theorem rcall_any (name : ByteArray) (a b : Int) (w : World) :
    Calls Try.prog 43 #[.string name, .int .i64 a, .int .i64 b] w fun e w' => e = .returned (Sp.nb (Sp.call name.toList a b)) ∧ w = w' := by
  have hla := Sp.lsl_bd (a % 4294967296) (b % 4294967296)
  have haa := Sp.asr_bd (a % 4294967296) (b % 4294967296)
  have hra := Sp.ror_bd (a % 4294967296) (b % 4294967296) (by omega) (by omega)
  have K1 := Lib.hid (show Sp.sgn (-(a % 4294967296) % 4294967296) = Sp.sgn (-Sp.sgn (a % 4294967296) % 4294967296) by have := Sp.sgn_mod a; apply sgn_congr; omega)
  have K2 := Lib.hid (show 0 ≤ Sp.sgn (a % 4294967296) → Sp.sgn (a % 4294967296) = Sp.sgn ((if Sp.sgn (a % 4294967296) < 0 then -Sp.sgn (a % 4294967296) else Sp.sgn (a % 4294967296)) % 4294967296) by
    intro h; have := Sp.sgn_bd (a % 4294967296) (by omega) (by omega); rw [if_neg (by omega), sgn_mod_self _ this])
  go_enter Try.func43, Try.ntmps43
  go_wp2_with (first | (go_at_call 76; refine (rword_any _ _).mono ?_; rintro e w' ⟨rfl, rfl⟩) | (go_at_call 77; refine (rsigned_any _ _ (by omega) (by omega)).mono ?_; rintro e w' ⟨rfl, rfl⟩) | (go_at_call 90; refine (rlsl_any _ _ _ (by omega) (by omega) (by omega) (by omega)).mono ?_; rintro e w' ⟨rfl, rfl⟩) | (go_at_call 91; refine (rasr_any _ _ _ (by omega) (by omega) (by omega) (by omega)).mono ?_; rintro e w' ⟨rfl, rfl⟩) | (go_at_call 92; refine (rror_any _ _ _ (by omega) (by omega) (by omega) (by omega)).mono ?_; rintro e w' ⟨rfl, rfl⟩))
  all_goals
    go_ret2
    exact ⟨ret_val (by simp only [Sp.nb, Sp.call]; simp [*, K1.out]; try (exact K2.out (by omega))), rfl⟩

theorem floor_div (a b : Int) (hb : 0 < b) : (if b * a.tdiv b > a then a.tdiv b - 1 else a.tdiv b) = a / b := by
  have h := Int.emod_add_mul_ediv a b
  have h1 := Int.emod_nonneg a (b := b) (by omega)
  have h2 := Int.emod_lt_of_pos a hb
  rw [Int.tdiv_eq_ediv, Int.sign_eq_one_of_pos hb]
  by_cases hn : 0 ≤ a ∨ b ∣ a
  · rw [if_pos hn, if_neg (by simp; omega)]; simp
  · rw [if_neg hn]
    have hz : a % b ≠ 0 := fun e => hn (.inr (Int.dvd_of_emod_eq_zero e))
    rw [if_pos (by rw [Int.mul_add]; omega)]; omega
theorem floor_any (a b : Int) (w : World) (ha : -2147483648 ≤ a ∧ a < 2147483648) (hb : 0 < b ∧ b < 2147483648) :
    Calls Try.prog 122 #[.int .i64 a, .int .i64 b] w fun e w' => e = .returned (.int .i64 (a / b)) ∧ w = w' := by
  have hd := floor_div a b hb.1
  have hd2 := (Sp.fit_iff _).1 (Sp.div_ok a b ha hb.1)
  have hm : -4294967296 ≤ a.tdiv b * b ∧ a.tdiv b * b ≤ 4294967296 := by
    rw [Int.mul_comm]
    have h := Int.emod_add_mul_ediv a b
    have h1 := Int.emod_nonneg a (b := b) (by omega)
    have h2 := Int.emod_lt_of_pos a hb.1
    rw [Int.tdiv_eq_ediv, Int.sign_eq_one_of_pos hb.1]
    split
    · simp; omega
    · rw [Int.mul_add]; omega
  have hq : -2147483649 ≤ a.tdiv b ∧ a.tdiv b ≤ 2147483648 := by
    rw [← hd] at hd2; split at hd2 <;> omega
  rw [Int.mul_comm] at hd
  have HD := Lib.hid hd
  clear hd hd2
  go_enter Try.func122, Try.ntmps122
  go_wp2
  all_goals
    go_ret
    exact ⟨ret_int (by rw [← HD.out]; first | rw [if_pos (by assumption)] | rw [if_neg (by omega)]), rfl⟩
set_option maxRecDepth 100000 in
set_option maxHeartbeats 1600000 in
theorem do_any (b n : Int) (w : World) (hb0 : 0 ≤ b) (hb1 : b < 4294967296) (hn0 : 0 ≤ n) (hn1 : n < 4294967296) (hy : 0 < Sp.sgn n) :
    Calls Try.prog 78 #[.int .i64 11, .bool false, .int .u32 b, .int .u32 n, .int .u32 0, .agg #[.bool false, .bool false, .bool false, .bool false]] w fun e w' =>
      (∃ c1 c2 c3 c4 : Bool, e = .returned (.agg #[.int .u32 (Sp.sgn b / Sp.sgn n % 4294967296), .int .u32 ((Sp.sgn b - Sp.sgn b / Sp.sgn n * Sp.sgn n) % 4294967296), .bool c1, .bool c2, .bool c3, .bool c4, .bool true])) ∧ Below w.heap.size w w' := by
  have h1 := Sp.sgn_bd b hb0 hb1
  have h2 := Sp.sgn_bd n hn0 hn1
  have h3 := (Sp.fit_iff _).1 (Sp.div_ok (Sp.sgn b) (Sp.sgn n) h1 hy)
  have h4 : -4294967296 ≤ Sp.sgn b / Sp.sgn n * Sp.sgn n ∧ Sp.sgn b / Sp.sgn n * Sp.sgn n ≤ 4294967296 := by
    have h := Int.emod_add_mul_ediv (Sp.sgn b) (Sp.sgn n)
    have h1 := Int.emod_nonneg (Sp.sgn b) (b := Sp.sgn n) (by omega)
    have h2 := Int.emod_lt_of_pos (Sp.sgn b) hy
    rw [Int.mul_comm]; omega
  go_enter Try.func78, Try.ntmps78
  go_wp2_with (first | (go_at_call 77; refine (rsigned_any _ _ (by assumption) (by assumption)).mono ?_; rintro e w' ⟨rfl, rfl⟩) | (go_at_call 76; refine (rword_any _ _).mono ?_; rintro e w' ⟨rfl, rfl⟩) | (go_at_call 122; refine (floor_any _ _ _ (by omega) (by omega)).mono ?_; rintro e w' ⟨rfl, rfl⟩))
  go_returns
  exact ⟨⟨_, _, _, _, rfl⟩, by go_grown⟩
theorem aint_add (a b : Int) : Sp.sgn ((a + b) % 4294967296) = Sp.sgn ((Sp.sgn (a % 4294967296) + Sp.sgn (b % 4294967296)) % 4294967296) := by
  have h1 := Sp.sgn_mod a; have h2 := Sp.sgn_mod b; apply sgn_congr; omega
theorem aint_sub (a b : Int) : Sp.sgn ((a - b) % 4294967296) = Sp.sgn ((Sp.sgn (a % 4294967296) - Sp.sgn (b % 4294967296)) % 4294967296) := by
  have h1 := Sp.sgn_mod a; have h2 := Sp.sgn_mod b; apply sgn_congr; omega
theorem aint_mul' (a b : Int) : Sp.sgn (a * b % 4294967296) = Sp.sgn ((Sp.sgn (a % 4294967296) * Sp.sgn (b % 4294967296)) % 4294967296) := by
  have h1 := Sp.sgn_mod a; have h2 := Sp.sgn_mod b; apply sgn_congr
  rw [Int.mul_emod a b, Int.mul_emod (Sp.sgn (a % 4294967296)), h1, h2]
theorem aint_mul (a b : Int) : Sp.sgn (a % 4294967296 * (b % 4294967296) % 4294967296) = Sp.sgn ((Sp.sgn (a % 4294967296) * Sp.sgn (b % 4294967296)) % 4294967296) := by
  rw [← Int.mul_emod]; exact aint_mul' a b
theorem aint_div (a b : Int) (h : 0 < Sp.sgn (b % 4294967296)) : Sp.sgn (Sp.sgn (a % 4294967296) / Sp.sgn (b % 4294967296) % 4294967296) = Sp.sgn (a % 4294967296) / Sp.sgn (b % 4294967296) :=
  Sp.sgn_word _ (Sp.div_ok _ _ (Sp.sgn_bd _ (by omega) (by omega)) h)
theorem aint_rem (a b : Int) (h : 0 < Sp.sgn (b % 4294967296)) : Sp.sgn ((Sp.sgn (a % 4294967296) - Sp.sgn (a % 4294967296) / Sp.sgn (b % 4294967296) * Sp.sgn (b % 4294967296)) % 4294967296) = Sp.sgn (a % 4294967296) % Sp.sgn (b % 4294967296) := by
  have e : Sp.sgn (a % 4294967296) - Sp.sgn (a % 4294967296) / Sp.sgn (b % 4294967296) * Sp.sgn (b % 4294967296) = Sp.sgn (a % 4294967296) % Sp.sgn (b % 4294967296) := by
    have := Int.emod_add_mul_ediv (Sp.sgn (a % 4294967296)) (Sp.sgn (b % 4294967296)); rw [Int.mul_comm]; omega
  rw [e]
  exact Sp.sgn_word _ (Sp.mod_ok _ _ (Sp.sgn_bd _ (by omega) (by omega)) h (Sp.sgn_bd _ (by omega) (by omega)).2)
set_option maxHeartbeats 800000 in
theorem rInt_any (op : ByteArray) (a b : Int) (w : World) :
    Calls Try.prog 28 #[.string op, .int .i64 a, .int .i64 b] w fun e w' =>
      e = .returned (Sp.three (Sp.aint op.toList (Sp.sgn (a % 4294967296)) (Sp.sgn (b % 4294967296)))) ∧ Below w.heap.size w w' := by
  go_enter Try.func28, Try.ntmps28
  go_wp2_with (first | (go_at_call 76; refine (rword_any _ _).mono ?_; rintro e w' ⟨rfl, rfl⟩) | (go_at_call 77; refine (rsigned_any _ _ (by omega) (by omega)).mono ?_; rintro e w' ⟨rfl, rfl⟩) | (go_at_call 78; refine (do_any _ _ _ (by omega) (by omega) (by omega) (by omega) (by omega)).mono ?_; rintro e w1 ⟨⟨c1, c2, c3, c4, rfl⟩, hb1⟩; obtain ⟨hc1, hf1⟩ := bcell hb1; have hz1 := hb1.size))
  all_goals (go_ret3; refine ⟨ret_val ?_, by go_grown⟩)
  all_goals (simp only [Sp.three, Sp.aint]; simp [*])
  · exact aint_add a b
  · exact aint_sub a b
  · first | exact aint_mul a b | exact aint_mul' a b
  all_goals first
    | (exfalso; simp_all; done)
    | (rw [if_neg (by omega)]; exact ⟨aint_div a b (by assumption), rfl, rfl⟩)
    | (rw [if_neg (by omega)]; exact ⟨aint_rem a b (by assumption), rfl, rfl⟩)

/-- the waking call of layer 20 -/
theorem wakes20_any (w : World) :
    Calls Try.prog 24 #[] w fun e w' => e = .returned (.bool true) ∧ Below w.heap.size w w' := by
  have tok1 : True := trivial
  go_enter Try.func24, Try.ntmps24
  go_wp2_with (first | (go_at_call 27; refine (Int_any _ _ _ _).mono ?_; first | (have tok := tok1; clear tok tok1; rintro e w0 ⟨rfl, hb0⟩; have hz0 := hb0.size) | (rintro e w1 ⟨rfl, hb1⟩; have hz1 : w.heap.size ≤ w1.heap.size := by have := hb1.size; simp at this; omega)) | (go_at_call 25; refine (texts_any _ _ _ _ (by decide) (by decide)).mono ?_; rintro e w1 ⟨rfl, n, rfl⟩) | (go_at_call 40; refine (range_any _ _ _).mono ?_; rintro e w' ⟨rfl, rfl⟩))
  have hz : w.heap.size ≤ w1.heap.size := by assumption
  go_ret
  exact ⟨ret_bool (by decide +kernel), (below_drewN hb0 _).trans (hb1.mono hb0.size)⟩
theorem ArithInts_any (op : ByteArray) (a b : Int) (w : World) :
    Calls Try.prog 8 #[.string op, .int .i64 a, .int .i64 b] w fun e w' => e = .returned (.bool true) ∧ Below w.heap.size w w' := by
  go_enter Try.func8, Try.ntmps8
  go_wp2_with (first | (go_at_call 27; refine (Int_any _ _ _ _).mono ?_; rintro e w1 ⟨rfl, hb1⟩) | (go_at_call 28; refine (rInt_any _ _ _ _).mono ?_; rintro e w2 ⟨rfl, hb2⟩) | (go_at_call 29; refine (relate_any _ _ _ _).mono ?_; rintro e w' ⟨rfl, rfl⟩) | (go_at_call 30; refine (rrelate20_any _ _ _ _).mono ?_; rintro e w' ⟨rfl, rfl⟩) | (go_at_call 24; refine (wakes20_any _).mono ?_; rintro e w3 ⟨rfl, hb3⟩))
  go_ret
  exact ⟨rfl, hb1.trans ((hb2.mono hb1.size).trans (hb3.mono (Nat.le_trans hb1.size hb2.size)))⟩
theorem ArithTexts_any (op a b : ByteArray) (w : World) :
    Calls Try.prog 7 #[.string op, .string a, .string b] w fun e w' => e = .returned (.bool true) ∧ Below w.heap.size w w' := by
  by_cases h : 5000 < a.size ∨ 5000 < b.size
  · have h' := Lib.hid h
    by_cases h1 : 5000 < a.size
    all_goals
      try (have h2 : 5000 < b.size := by omega)
      clear h
      go_enter Try.func7, Try.ntmps7
      go_wp2_with (first | (go_at_call 24; refine (wakes20_any _).mono ?_; rintro e w3 ⟨rfl, hb3⟩))
      go_ret
      exact ⟨rfl, hb3⟩
  · have ha : a.size < 4294967281 := by omega
    have hb : b.size < 4294967281 := by omega
    have ha5 : a.size ≤ 5000 := by omega
    have hb5 : b.size ≤ 5000 := by omega
    clear h
    go_enter Try.func7, Try.ntmps7
    go_wp2_with (first | (go_at_call 25; refine (texts_any _ _ _ _ (by assumption) (by assumption)).mono ?_; rintro e w1 ⟨rfl, n, rfl⟩) | (go_at_call 26; refine (rtexts_any _ _ _ _ (by assumption) (by assumption)).mono ?_; rintro e w2 ⟨rfl, rfl⟩) | (go_at_call 24; refine (wakes20_any _).mono ?_; rintro e w3 ⟨rfl, hb3⟩))
    go_ret
    exact ⟨rfl, (below_drewN (Below.refl _ _) n).trans hb3⟩
theorem ArithCalls_any (name : ByteArray) (a b : Int) (w : World) :
    Calls Try.prog 13 #[.string name, .int .i64 a, .int .i64 b] w fun e w' => e = .returned (.bool true) ∧ Below w.heap.size w w' := by
  go_enter Try.func13, Try.ntmps13
  go_wp2_with (first | (go_at_call 42; refine (call_any _ _ _ _).mono ?_; rintro e w1 ⟨rfl, rfl⟩) | (go_at_call 43; refine (rcall_any _ _ _ _).mono ?_; rintro e w2 ⟨rfl, rfl⟩) | (go_at_call 24; refine (wakes20_any _).mono ?_; rintro e w3 ⟨rfl, hb3⟩))
  go_ret
  exact ⟨rfl, hb3⟩
end Go.Proofs.Ythcpedonpiihnaa
