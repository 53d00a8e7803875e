/- The walks of the functions on words of 32 bits: of the program (bits) and of the document's answer (ref01). Conditions: words are from 0 on and below 2 to the 32nd. -/
import Derived.Test.YthcpedonpiihnaaChecked
import Derived.Test.YthcpedonpiihnaaNumP
import Derived.Test.YthcpedonpiihnaaMoreW
import Derived.BigQuiet
import Derived.Deep.QuietTactic
import Derived.WalkLawsBesides
import Derived.WalkSpells
import Derived.Handy
import Derived.Lib.Hide
namespace Go.Proofs.Ythcpedonpiihnaa
set_option linter.unusedSimpArgs false
set_option linter.unusedVariables false
open Go.RowKit

theorem bcell {W w1 : World} (hb : Below W.heap.size W w1) : (∀ b o, b < W.heap.size → w1.cell? ⟨b, o, none⟩ = W.cell? ⟨b, o, none⟩) ∧ (∀ b o, b < W.heap.size → w1.frozen? ⟨b, o, none⟩ = W.frozen? ⟨b, o, none⟩) :=
  ⟨fun b o h => hb.cell (p := ⟨b, o, none⟩) h, fun b o h => hb.frozen (p := ⟨b, o, none⟩) h⟩
theorem ret_int {k : IntKind} {a b : Int} (h : a = b) : Ending.returned (.int k a) = .returned (.int k b) := by rw [h]
theorem ret_bool {a b : Bool} (h : a = b) : Ending.returned (.bool a) = .returned (.bool b) := by rw [h]

theorem pow_any (n : Int) (w : World) (h0 : 0 ≤ n) (h1 : n ≤ 32) :
    Calls Try.prog 118 #[.int .u32 n] w fun e w' => e = .returned (.int .u64 (2 ^ n.toNat)) ∧ w = w' := by
  obtain ⟨m, rfl⟩ := Int.eq_ofNat_of_zero_le h0
  go_enter Try.func118, Try.ntmps118
  go_wp2
  go_loop [3, 4] (fun p i => ∃ k : Nat, k ≤ m ∧ i = .int .u32 k ∧ p = .int .u64 (2 ^ k)) (fun _ i => m - (intOf i).toNat)
  case atStart => exact ⟨0, Nat.zero_le _, rfl, rfl⟩
  case round =>
    obtain ⟨k, hk, rfl, rfl⟩ := hrel
    have hp := Sp.pow_bd k (by omega)
    by_cases hlt : k < m
    · go_wp2
      go_round
      case rel => exact ⟨k + 1, by omega, by go_num, by rw [Int.pow_succ]⟩
      case measure => simp [intOf]; omega
    · go_wp2
      go_ret
      have : k = m := by omega
      subst this
      exact ⟨rfl, rfl⟩

theorem may_any (a b : Int) (w : World) :
    Calls Try.prog 117 #[.int .i64 a, .int .i64 b] w fun e w' => e = .returned (.bool (Sp.mayB a b)) ∧ w = w' := by
  go_enter Try.func117, Try.ntmps117
  go_wp2
  all_goals
    go_ret
    exact ⟨ret_bool (by simp [Sp.mayB, *]; try omega), rfl⟩

theorem fits32_any (v : Int) (w : World) :
    Calls Try.prog 82 #[.int .i64 v, .int .i64 32] w fun e w' => e = .returned (.bool (Sp.fit v)) ∧ w = w' := by
  go_enter Try.func82, Try.ntmps82
  go_wp2
  all_goals
    go_ret
    exact ⟨ret_bool (by simp [Sp.fit, *]; try omega), rfl⟩

theorem rfits32_any (v : Int) (w : World) :
    Calls Try.prog 83 #[.int .i64 v, .int .i64 32] w fun e w' => e = .returned (.bool (Sp.fit v)) ∧ w = w' := by
  go_enter Try.func83, Try.ntmps83
  go_wp2_with (go_at_call 118; refine (pow_any _ _ (by omega) (by omega)).mono ?_; rintro e w' ⟨rfl, rfl⟩)
  all_goals
    go_ret
    exact ⟨ret_bool (by simp [Sp.fit, *]; try omega), rfl⟩

theorem word_any (n : Int) (w : World) :
    Calls Try.prog 85 #[.int .i64 n] w fun e w' => e = .returned (.int .u32 (n % 4294967296)) ∧ w = w' := by
  go_enter Try.func85, Try.ntmps85
  go_wp2
  go_ret
  exact ⟨rfl, rfl⟩

theorem signed_any (n : Int) (w : World) (h0 : 0 ≤ n) (h1 : n < 4294967296) :
    Calls Try.prog 86 #[.int .u32 n] w fun e w' => e = .returned (.int .i64 (Sp.sgn n)) ∧ w = w' := by
  have hs := Sp.sgn_bd n h0 h1
  have hw := Sp.wrap32_sgn n h0 h1
  go_enter Try.func86, Try.ntmps86
  go_wp2
  go_ret
  exact ⟨rfl, rfl⟩

theorem rsigned_any (n : Int) (w : World) (h0 : 0 ≤ n) (h1 : n < 4294967296) :
    Calls Try.prog 77 #[.int .u32 n] w fun e w' => e = .returned (.int .i64 (Sp.sgn n)) ∧ w = w' := by
  go_enter Try.func77, Try.ntmps77
  go_wp2
  all_goals
    go_ret
    exact ⟨ret_int (by simp only [Sp.sgn]; split <;> omega), rfl⟩

theorem rword_any (n : Int) (w : World) :
    Calls Try.prog 76 #[.int .i64 n] w fun e w' => e = .returned (.int .u32 (n % 4294967296)) ∧ w = w' := by
  have h2 : -4294967296 < n.tmod 4294967296 ∧ n.tmod 4294967296 < 4294967296 ∧ n.tmod 4294967296 % 4294967296 = n % 4294967296 := by
    rw [Int.tmod_eq_emod]; split <;> omega
  go_enter Try.func76, Try.ntmps76
  go_wp2
  all_goals
    go_ret
    exact ⟨ret_int (by omega), rfl⟩

theorem lsl_any (x n : Int) (w : World) (h0 : 0 ≤ n) (h1 : n < 4294967296) :
    Calls Try.prog 87 #[.int .u32 x, .int .u32 n] w fun e w' => e = .returned (.int .u32 (Sp.lsl x n)) ∧ w = w' := by
  go_enter Try.func87, Try.ntmps87
  go_wp2
  go_ret
  exact ⟨rfl, rfl⟩

theorem asr_any (x n : Int) (w : World) (hx : 0 ≤ x) (hx1 : x < 4294967296) (h0 : 0 ≤ n) (h1 : n < 4294967296) :
    Calls Try.prog 88 #[.int .u32 x, .int .u32 n] w fun e w' => e = .returned (.int .u32 (Sp.asr x n)) ∧ w = w' := by
  have hw := Sp.wrap32_sgn x hx hx1
  go_enter Try.func88, Try.ntmps88
  go_wp2
  go_ret
  exact ⟨rfl, rfl⟩

theorem rot_or (x : Int) (m : Nat) (hx : 0 ≤ x) (hx1 : x < 4294967296) (h : m < 32) :
    bits .or .u32 (x * 2 ^ (-(m : Int) % 32).toNat % 4294967296) (x / 2 ^ (32 - -(m : Int) % 32).toNat) = Sp.ror x m := by
  have hb := Sp.ror_bd x m hx hx1
  have e0 : ((m : Int) % 32).toNat = m := by omega
  unfold Sp.ror at hb ⊢
  rw [e0] at hb ⊢
  by_cases hm : m = 0
  · subst hm
    rw [show (-((0 : Nat) : Int) % 32).toNat = 0 from rfl, show (32 - -((0 : Nat) : Int) % 32).toNat = 32 from rfl]
    have a : x / 2 ^ 32 = 0 := by omega
    have b : x * 2 ^ 0 % 4294967296 = x := by omega
    rw [a, b, u32_or x 0 (by omega) (by omega) (by omega) (by omega)]
    simp [Int.emod_one]; omega
  · rw [show (-(m : Int) % 32).toNat = 32 - m from by omega, show (32 - -(m : Int) % 32).toNat = m from by omega]
    have hp := Sp.pow_bd m (by omega)
    have hq := Sp.pow_bd (32 - m) (by omega)
    have hs := Sp.pow_split m (by omega)
    have e : x * 2 ^ (32 - m) % 4294967296 = x % 2 ^ m * 2 ^ (32 - m) := by
      rw [← hs, Int.mul_comm x, Int.mul_comm (2 ^ m), Int.mul_emod_mul_of_pos _ _ (by omega), Int.mul_comm]
    rw [e]
    have c := Int.emod_nonneg x (b := 2 ^ m) (by omega)
    have d := Int.emod_lt_of_pos x (b := 2 ^ m) (by omega)
    have f : x % 2 ^ m * 2 ^ (32 - m) ≤ (2 ^ m - 1) * 2 ^ (32 - m) := Int.mul_le_mul_of_nonneg_right (by omega) (by omega)
    have g : 0 ≤ x % 2 ^ m * 2 ^ (32 - m) := Int.mul_nonneg c (by omega)
    have j := Sp.div_bd x (2 ^ m) (2 ^ (32 - m)) (by omega) (by omega)
    have k : 0 ≤ x / 2 ^ m := Int.ediv_nonneg hx (by omega)
    rw [Int.sub_mul] at f
    rw [u32_or _ _ (by omega) (by omega) (by omega) (by omega)]
    obtain ⟨A, hA⟩ := Int.eq_ofNat_of_zero_le c
    obtain ⟨B, hB⟩ := Int.eq_ofNat_of_zero_le k
    rw [hA, hB]
    rw [hB] at j
    have l := Nat.two_pow_add_eq_or_of_lt (i := 32 - m) (b := B) (by have : ((2:Nat) ^ (32 - m) : Nat) = ((2:Int) ^ (32 - m)) := by simp
                                                                     omega) A
    rw [show ((A : Int) * 2 ^ (32 - m)).toNat = 2 ^ (32 - m) * A from by
      rw [show (A : Int) * 2 ^ (32 - m) = ((2 ^ (32 - m) * A : Nat) : Int) from by simp [Int.mul_comm]]; rfl]
    rw [show ((B : Int)).toNat = B from rfl, ← l]
    simp [Int.mul_comm, Int.add_comm]

theorem rot_mask (m : Nat) (h : m < 32) : bits .and .u64 (IntKind.u64.wrap (-(m : Int))) 31 = (32 - (m : Int)) % 32 := by
  revert m; decide +kernel

theorem rot_any (x n : Int) (w : World) (hx : 0 ≤ x) (hx1 : x < 4294967296) (h0 : 0 ≤ n) (h1 : n < 32) :
    Calls Try.prog 124 #[.int .u32 x, .int .i64 (-n)] w fun e w' => e = .returned (.int .u32 (Sp.ror x n)) ∧ w = w' := by
  obtain ⟨m, rfl⟩ := Int.eq_ofNat_of_zero_le h0
  have hr := Lib.hid (rot_or x m hx hx1 (by omega))
  have hm := rot_mask m (by omega)
  go_enter Try.func124, Try.ntmps124
  go_wp2
  go_ret
  exact ⟨ret_int hr.out, rfl⟩

theorem ror_mod (x n : Int) : Sp.ror x (n % 32) = Sp.ror x n := by unfold Sp.ror; rw [Int.emod_emod_of_dvd n (by decide)]

theorem ror_any (x n : Int) (w : World) (hx : 0 ≤ x) (hx1 : x < 4294967296) (h0 : 0 ≤ n) (h1 : n < 4294967296) :
    Calls Try.prog 89 #[.int .u32 x, .int .u32 n] w fun e w' => e = .returned (.int .u32 (Sp.ror x n)) ∧ w = w' := by
  go_enter Try.func89, Try.ntmps89
  go_wp2_with (go_at_call 124; refine (rot_any x (n % 32) _ hx hx1 (by omega) (by omega)).mono ?_; rintro e w' ⟨rfl, rfl⟩)
  go_ret
  exact ⟨ret_int (ror_mod x n), rfl⟩

theorem q_left {P : Program} {f : FuncId} {args : Array Value} {w : World} {n : Nat} {v : Value}
    (h : Calls P f args (w.drewN n) fun e w' => e = .returned v ∧ w.drewN n = w') : Calls P f args (w.drewN n) fun e w'' => e = .returned v ∧ ∃ m, w'' = w.drewN m :=
  h.mono fun _ _ ⟨he, hm⟩ => ⟨he, n, hm.symm⟩

theorem quiet_add_left {P : Program} {f : FuncId} {args : Array Value} {w : World} {a n : Nat} {v : Value}
    (h : Calls P f args (w.drewN (a + n)) fun e w' => e = .returned v ∧ w.drewN (a + n) = w') :
    Calls P f args (w.drewN (a + n)) fun e w'' => e = .returned v ∧ ∃ m, w'' = w.drewN (a + m) :=
  h.mono fun _ _ ⟨he, hm⟩ => ⟨he, n, hm.symm⟩

theorem get_any (x lo n : Int) (w : World) (hx : 0 ≤ x) (hx1 : x < 4294967296) :
    Calls Try.prog 57 #[.int .u32 x, .int .i64 lo, .int .i64 n] w fun e w' => e = .returned (.int .u32 (Sp.get x lo n)) ∧ ∃ m, w' = w.drewN m := by
  by_cases h : Sp.mayB lo n = true
  · have h' := h
    simp only [Sp.mayB, decide_eq_true_eq] at h'
    obtain ⟨a, b, c, d⟩ := h'
    obtain ⟨l, rfl⟩ := Int.eq_ofNat_of_zero_le a
    obtain ⟨m, rfl⟩ := Int.eq_ofNat_of_zero_le (show 0 ≤ n by omega)
    have hp := Sp.pow_bd l (by omega)
    have hq := Sp.pow_bd m (by omega)
    go_enter Try.func57, Try.ntmps57
    go_wp2_with (first | (go_at_call 117; refine (may_any _ _ _).mono ?_; rintro e w' ⟨rfl, rfl⟩))
    go_quiet ((go_at_call 118; exact q_left (pow_any _ _ (by omega) (by omega))))
    have hd : 0 ≤ x / 2 ^ l := Int.ediv_nonneg hx (by omega)
    have he := Int.emod_nonneg (x / 2 ^ l) (b := 2 ^ m) (by omega)
    have hf := Int.emod_lt_of_pos (x / 2 ^ l) (b := 2 ^ m) (by omega)
    go_wp2
    go_ret
    exact ⟨ret_int (by rw [Int.tmod_eq_emod_of_nonneg hd, Sp.get, if_pos h]; simp only [Int.toNat_natCast]; omega), nq, rfl⟩
  · rw [Bool.not_eq_true] at h
    go_enter Try.func57, Try.ntmps57
    go_wp2_with (first | (go_at_call 117; refine (may_any _ _ _).mono ?_; rintro e w' ⟨rfl, rfl⟩))
    go_ret
    exact ⟨ret_int (by simp [Sp.get, h]), 0, rfl⟩

theorem put_any (x lo n v : Int) (w : World) (hx : 0 ≤ x) (hx1 : x < 4294967296) (hv : 0 ≤ v) (hv1 : v < 4294967296) :
    Calls Try.prog 64 #[.int .u32 x, .int .i64 lo, .int .i64 n, .int .u32 v] w fun e w' => e = .returned (.int .u32 (Sp.put x lo n v)) ∧ ∃ m, w' = w.drewN m := by
  by_cases h : Sp.mayB lo n = true
  · have h' := h
    simp only [Sp.mayB, decide_eq_true_eq] at h'
    obtain ⟨a, b, c, d⟩ := h'
    obtain ⟨l, rfl⟩ := Int.eq_ofNat_of_zero_le a
    obtain ⟨m, rfl⟩ := Int.eq_ofNat_of_zero_le (show 0 ≤ n by omega)
    have hp := Sp.pow_bd l (by omega)
    have hq := Sp.pow_bd m (by omega)
    obtain ⟨g0, g1⟩ := Sp.get_bd x l m hx
    obtain ⟨k0, k1⟩ := Sp.put_bd v l m (by omega)
    have g2 : 0 ≤ Sp.get x l m * 2 ^ l := Int.mul_nonneg g0 (by omega)
    have g3 : Sp.get x l m ≤ x := by
      have : Sp.get x l m * 1 ≤ Sp.get x l m * 2 ^ l := Int.mul_le_mul_of_nonneg_left (by omega) g0
      omega
    have j0 := Int.emod_nonneg v (b := 2 ^ m) (by omega)
    have j1 := Int.emod_lt_of_pos v (b := 2 ^ m) (by omega)
    go_enter Try.func64, Try.ntmps64
    go_wp2_with (first | (go_at_call 117; refine (may_any _ _ _).mono ?_; rintro e w' ⟨rfl, rfl⟩) | (go_at_call 57; refine (get_any _ _ _ _ hx hx1).mono ?_; rintro e w' ⟨rfl, nx, rfl⟩) | (go_at_call 118; refine (pow_any _ _ (by omega) (by omega)).mono ?_; rintro e w' ⟨rfl, rfl⟩))
    go_quiet ((go_at_call 118; first | exact q_left (pow_any _ _ (by omega) (by omega)) | exact quiet_add_left (pow_any _ _ (by omega) (by omega))))
    go_wp2
    go_ret
    exact ⟨ret_int (by rw [Sp.put, if_pos h]; simp only [Int.toNat_natCast]), nx + nq, World.drewN_drewN _ _ _⟩
  · rw [Bool.not_eq_true] at h
    go_enter Try.func64, Try.ntmps64
    go_wp2_with (first | (go_at_call 117; refine (may_any _ _ _).mono ?_; rintro e w' ⟨rfl, rfl⟩))
    go_ret
    exact ⟨ret_int (by simp [Sp.put, h]), 0, rfl⟩

theorem rlsl_any (x n : Int) (w : World) (hx : 0 ≤ x) (hx1 : x < 4294967296) (h0 : 0 ≤ n) (h1 : n < 4294967296) :
    Calls Try.prog 90 #[.int .u32 x, .int .u32 n] w fun e w' => e = .returned (.int .u32 (Sp.lsl x n)) ∧ w = w' := by
  have hp := Sp.pow_bd (n % 32).toNat (by omega)
  have hm : 0 ≤ x * 2 ^ (n % 32).toNat := Int.mul_nonneg hx (by omega)
  have hl : x * 2 ^ (n % 32).toNat ≤ x * 4294967296 := Int.mul_le_mul_of_nonneg_left (by omega) hx
  go_enter Try.func90, Try.ntmps90
  go_wp2_with (go_at_call 118; refine (pow_any _ _ (by omega) (by omega)).mono ?_; rintro e w' ⟨rfl, rfl⟩)
  go_ret
  exact ⟨ret_int (by unfold Sp.lsl; omega), rfl⟩

theorem rasr_any (x n : Int) (w : World) (hx : 0 ≤ x) (hx1 : x < 4294967296) (h0 : 0 ≤ n) (h1 : n < 4294967296) :
    Calls Try.prog 91 #[.int .u32 x, .int .u32 n] w fun e w' => e = .returned (.int .u32 (Sp.asr x n)) ∧ w = w' := by
  obtain ⟨m, rfl⟩ := Int.eq_ofNat_of_zero_le h0
  go_enter Try.func91, Try.ntmps91
  go_wp2
  go_loop [0, 5] (fun p i => ∃ k : Nat, k ≤ m % 32 ∧ i = .int .u32 k ∧ p = .int .u32 (Sp.asrN k x)) (fun _ i => m % 32 - (intOf i).toNat)
  case atStart => exact ⟨0, Nat.zero_le _, rfl, rfl⟩
  case round =>
    obtain ⟨k, hk, rfl, rfl⟩ := hrel
    obtain ⟨h2, h3, h4⟩ := Sp.asrN_eq x hx hx1 k (by omega)
    clear h2
    generalize hy : Sp.asrN k x = y at *
    have HY := Lib.hid hy; clear hy
    by_cases hlt : k < m % 32
    · have hd : decide ((k : Int) < (m : Int) % 32) = true := by simp; omega
      have h31 : k < 32 := by omega
      have HK := Lib.hid hk; have HL := Lib.hid hlt; clear hk hlt
      go_wp2
      go_round
      case rel => exact ⟨k + 1, by have := HL.out; omega, by go_num, by rw [Sp.asrN, HY.out]⟩
      case measure => have := HL.out; simp [intOf]; omega
    · have hd : decide ((k : Int) < (m : Int) % 32) = false := by simp; omega
      have h31 : k < 32 := by omega
      have HK := Lib.hid hk; have HL := Lib.hid hlt; clear hk hlt
      go_wp2
      go_ret
      have hk := HK.out; have hlt := HL.out
      rw [← HY.out]
      obtain rfl : k = m % 32 := by omega
      obtain ⟨h2, _, _⟩ := Sp.asrN_eq x hx hx1 (m % 32) (by omega)
      exact ⟨ret_int (by rw [h2, Sp.asr, show ((m : Int) % 32).toNat = m % 32 from by omega]), rfl⟩

theorem rror_any (x n : Int) (w : World) (hx : 0 ≤ x) (hx1 : x < 4294967296) (h0 : 0 ≤ n) (h1 : n < 4294967296) :
    Calls Try.prog 92 #[.int .u32 x, .int .u32 n] w fun e w' => e = .returned (.int .u32 (Sp.ror x n)) ∧ w = w' := by
  obtain ⟨m, rfl⟩ := Int.eq_ofNat_of_zero_le h0
  go_enter Try.func92, Try.ntmps92
  go_wp2
  go_loop [0, 5] (fun p i => ∃ k : Nat, k ≤ m % 32 ∧ i = .int .u32 k ∧ p = .int .u32 (Sp.rorN k x)) (fun _ i => m % 32 - (intOf i).toNat)
  case atStart => exact ⟨0, Nat.zero_le _, rfl, rfl⟩
  case round =>
    obtain ⟨k, hk, rfl, rfl⟩ := hrel
    have h2 := Sp.rorN_eq x k (by omega)
    have h3 := Sp.ror_bd x k hx hx1
    rw [Sp.ror, show ((k : Int) % 32).toNat = k from by omega, ← h2] at h3
    obtain ⟨h3, h4⟩ := h3
    clear h2
    generalize hy : Sp.rorN k x = y at *
    have HY := Lib.hid hy; clear hy
    by_cases hlt : k < m % 32
    · have hd : decide ((k : Int) < (m : Int) % 32) = true := by simp; omega
      have h31 : k < 32 := by omega
      have HK := Lib.hid hk; have HL := Lib.hid hlt; clear hk hlt
      go_wp2
      go_round
      case rel => exact ⟨k + 1, by have := HL.out; omega, by go_num, by rw [Sp.rorN, HY.out]⟩
      case measure => have := HL.out; simp [intOf]; omega
    · have hd : decide ((k : Int) < (m : Int) % 32) = false := by simp; omega
      have h31 : k < 32 := by omega
      have HK := Lib.hid hk; have HL := Lib.hid hlt; clear hk hlt
      go_wp2
      go_ret
      have hk := HK.out; have hlt := HL.out
      rw [← HY.out]
      obtain rfl : k = m % 32 := by omega
      have h2 := Sp.rorN_eq x (m % 32) (by omega)
      exact ⟨ret_int (by rw [h2, Sp.ror, show ((m : Int) % 32).toNat = m % 32 from by omega]), rfl⟩
end Go.Proofs.Ythcpedonpiihnaa
