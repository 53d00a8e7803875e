/- The walks of the laws ArithSets and ArithTurns. Conditions: words lie in their bounds. -/
import Derived.Test.YthcpedonpiihnaaArithU
namespace Go.Proofs.Ythcpedonpiihnaa
set_option linter.unusedSimpArgs false
set_option linter.unusedVariables false
open Go.RowKit
theorem ArithSets_any (op : ByteArray) (s t n m : Int) (w : World) (hs : 0 ≤ s) (hs1 : s < 4294967296) (ht : 0 ≤ t) (ht1 : t < 4294967296) :
    Calls Try.prog 11 #[.string op, .agg #[.int .u32 s, .int .u32 t], .agg #[.int .i64 n, .int .i64 m]] w fun e w' => e = .returned (.bool true) ∧ Below w.heap.size w w' := by
  go_enter Try.func11, Try.ntmps11
  go_wp2_with (first | (go_at_call 36; refine (set_any _ _ _ _).mono ?_; rintro e w1 ⟨rfl, rfl⟩) | (go_at_call 37; refine (rset_any _ _ _ _).mono ?_; rintro e w2 ⟨rfl, rfl⟩) | (go_at_call 38; refine (elem_any _ _ _ (by assumption) (by assumption)).mono ?_; rintro e w' ⟨rfl, rfl⟩) | (go_at_call 39; refine (relem_any _ _ _ (by assumption) (by assumption)).mono ?_; rintro e w' ⟨rfl, n, rfl⟩) | (go_at_call 40; refine (range_any _ _ _).mono ?_; rintro e w' ⟨rfl, rfl⟩) | (go_at_call 41; refine (rrange_any _ _ _).mono ?_; rintro e w' ⟨rfl, n, rfl⟩) | (go_at_call 24; refine (wakes20_any _).mono ?_; rintro e w3 ⟨rfl, hb3⟩))
  go_quiet (fail)
  go_wp2_with (first | (go_at_call 36; refine (set_any _ _ _ _).mono ?_; rintro e w1 ⟨rfl, rfl⟩) | (go_at_call 37; refine (rset_any _ _ _ _).mono ?_; rintro e w2 ⟨rfl, rfl⟩) | (go_at_call 38; refine (elem_any _ _ _ (by assumption) (by assumption)).mono ?_; rintro e w' ⟨rfl, rfl⟩) | (go_at_call 39; refine (relem_any _ _ _ (by assumption) (by assumption)).mono ?_; rintro e w' ⟨rfl, n, rfl⟩) | (go_at_call 40; refine (range_any _ _ _).mono ?_; rintro e w' ⟨rfl, rfl⟩) | (go_at_call 41; refine (rrange_any _ _ _).mono ?_; rintro e w' ⟨rfl, n, rfl⟩) | (go_at_call 24; refine (wakes20_any _).mono ?_; rintro e w3 ⟨rfl, hb3⟩))
  refine wp_region_more (by kernel_rfl) (by kernel_rfl) ?_
  repeat (first | go_big_quiet_skip | (go_big_quiet_want; go_big_quiet_op; first | go_big_quiet_on | (apply Exists.intro; refine ⟨fun _ => ?_, ?_⟩; (focus (first | (go_at_call 38; exact mo_in (mo_same (elem_any _ _ _ (by assumption) (by assumption)))) | (go_at_call 39; exact mo_in (mo_drew (relem_any _ _ _ (by assumption) (by assumption)))) | (go_at_call 40; exact mo_in (mo_same (range_any _ _ _))) | (go_at_call 41; exact mo_in (mo_drew (rrange_any _ _ _))) | (go_at_call 24; exact mo_in (mo (wakes20_any _))))); go_big_quiet_on)))
  refine wpQuiet_nil ?_
  intro _ hw'
  obtain ⟨gq, rfl⟩ := hw'
  go_wp2
  go_ret
  exact ⟨rfl, (by repeat' (first | (with_reducible exact Below.refl _ _) | (with_reducible assumption) | (with_reducible refine below_more ?_ ?_ _) | (with_reducible refine below_drewN ?_ _) | (with_reducible refine Below.drew ?_) | (with_reducible refine Below.alloc ?_ ?_ _) | (with_reducible refine Below.setCell ?_ ?_ _) | go_size))⟩
theorem bit_get (s : Int) (k : Nat) (hk : k < 32) (h0 : 0 ≤ s) (h1 : s < 4294967296) : Sp.elem k s = s.toNat.testBit k := by
  obtain ⟨n, rfl⟩ := Int.eq_ofNat_of_zero_le h0
  unfold Sp.elem
  rw [show (k : Int) % 32 = k from by omega, elem_and _ k hk h0 h1, Nat.testBit_eq_decide_div_mod_eq]
  have e : ((n : Int) / 2 ^ k % 2) = ((n / 2 ^ k % 2 : Nat) : Int) := by simp
  rw [Int.toNat_natCast, Bool.eq_iff_iff]
  simp only [beq_iff_eq, decide_eq_true_eq]
  omega
theorem bit_or (s t : Int) (k : Nat) (hk : k < 32) (hs : 0 ≤ s) (hs1 : s < 4294967296) (ht : 0 ≤ t) (ht1 : t < 4294967296) : Sp.elem k (bits .or .u32 s t) = (Sp.elem k s || Sp.elem k t) := by
  have e := u32_or s t hs hs1 ht ht1
  have hb : s.toNat ||| t.toNat < 2 ^ 32 := Nat.or_lt_two_pow (by omega) (by omega)
  rw [e, bit_get _ k hk (by omega) (by omega), bit_get s k hk hs hs1, bit_get t k hk ht ht1, Int.toNat_natCast, Nat.testBit_or]
theorem bit_not (s t : Int) (k : Nat) (hk : k < 32) (hs : 0 ≤ s) (hs1 : s < 4294967296) (ht : 0 ≤ t) (ht1 : t < 4294967296) : Sp.elem k (bits .andNot .u32 s t) = (Sp.elem k s && !Sp.elem k t) := by
  have e := u32_andNot s t hs hs1 ht ht1
  have hb : s.toNat &&& (4294967295 - t.toNat) < 2 ^ 32 := Nat.and_lt_two_pow _ (by omega)
  rw [e, bit_get _ k hk (by omega) (by omega), bit_get s k hk hs hs1, bit_get t k hk ht ht1, Int.toNat_natCast, Nat.testBit_and]
  have h2 : 4294967295 - t.toNat = 2 ^ 32 - (t.toNat + 1) := by omega
  rw [h2, Nat.testBit_two_pow_sub_succ (by omega)]
  simp [hk]
theorem setop_bd (s t : Int) (hs : 0 ≤ s) (hs1 : s < 4294967296) (ht : 0 ≤ t) (ht1 : t < 4294967296) : (0 ≤ bits .or .u32 s t ∧ bits .or .u32 s t < 4294967296) ∧ (0 ≤ bits .andNot .u32 s t ∧ bits .andNot .u32 s t < 4294967296) := by
  have h1 : s.toNat ||| t.toNat < 2 ^ 32 := Nat.or_lt_two_pow (by omega) (by omega)
  have h2 : s.toNat &&& (4294967295 - t.toNat) < 2 ^ 32 := Nat.and_lt_two_pow _ (by omega)
  rw [u32_or s t hs hs1 ht ht1, u32_andNot s t hs hs1 ht ht1]
  omega
theorem turn_sub (X Y : Int) (hX : -2147483648 ≤ X ∧ X < 2147483648) (hY : -2147483648 ≤ Y ∧ Y < 2147483648) : Sp.sgn ((Sp.sgn ((X + Y) % 4294967296) - Y) % 4294967296) = X := by
  have h := Sp.sgn_mod (X + Y)
  have e : (Sp.sgn ((X + Y) % 4294967296) - Y) % 4294967296 = X % 4294967296 := by omega
  rw [e, sgn_mod_self X hX]
theorem turn_back (X Y : Int) (hX : -2147483648 ≤ X ∧ X < 2147483648) (hY : 0 < Y) (hr : -2147483648 ≤ X % Y ∧ X % Y < 2147483648) : Sp.sgn ((Sp.sgn (X / Y * Y % 4294967296) + X % Y) % 4294967296) = X := by
  have h := Sp.sgn_mod (X / Y * Y)
  have h2 := Int.emod_add_mul_ediv X Y
  rw [Int.mul_comm] at h2
  have e : (Sp.sgn (X / Y * Y % 4294967296) + X % Y) % 4294967296 = X % 4294967296 := by omega
  rw [e, sgn_mod_self X hX]
set_option maxRecDepth 100000 in
set_option maxHeartbeats 3200000 in
theorem ArithTurns_any (a b s t : Int) (w : World) (hs : 0 ≤ s) (hs1 : s < 4294967296) (ht : 0 ≤ t) (ht1 : t < 4294967296) :
    Calls Try.prog 12 #[.int .i64 a, .int .i64 b, .agg #[.int .u32 s, .int .u32 t]] w fun e w' => e = .returned (.bool true) ∧ Below w.heap.size w w' := by
  have hX := Sp.sgn_bd (a % 4294967296) (by omega) (by omega)
  have hY := Sp.sgn_bd (b % 4294967296) (by omega) (by omega)
  have hwa := Sp.wrap32_mod a
  have hwb := Sp.wrap32_mod b
  have hwa' : wrap32 (a % 4294967296) = Sp.sgn (a % 4294967296) := by rw [Sp.wrap32_mod, Int.emod_emod_of_dvd _ (by exact Int.dvd_refl _)]
  have hwb' : wrap32 (b % 4294967296) = Sp.sgn (b % 4294967296) := by rw [Sp.wrap32_mod, Int.emod_emod_of_dvd _ (by exact Int.dvd_refl _)]
  obtain ⟨X, eX⟩ : ∃ X, Sp.sgn (a % 4294967296) = X := ⟨_, rfl⟩
  obtain ⟨Y, eY⟩ : ∃ Y, Sp.sgn (b % 4294967296) = Y := ⟨_, rfl⟩
  rw [eX] at hX hwa hwa'
  rw [eY] at hY hwb hwb'
  have hn := Sp.sgn_bd ((X + Y) % 4294967296) (by omega) (by omega)
  have hm := turn_sub X Y hX hY
  have eA1 : Sp.aint [43] X Y = (Sp.sgn ((X + Y) % 4294967296), 0, true) := by simp [Sp.aint]
  have eA2 : Sp.aint [45] (Sp.sgn ((X + Y) % 4294967296)) Y = (X, 0, true) := by simp [Sp.aint, hm]
  obtain ⟨n, en⟩ : ∃ n, Sp.sgn ((X + Y) % 4294967296) = n := ⟨_, rfl⟩
  rw [en] at hn eA1 eA2
  have en2 := sgn_mod_self n hn
  clear hm
  obtain ⟨⟨u0, u1⟩, d0, d1⟩ := setop_bd s t hs hs1 ht ht1
  have eU : Sp.setop [43] s t = (bits .or .u32 s t, true) := by simp [Sp.setop]
  have eD : Sp.setop [45] s t = (bits .andNot .u32 s t, true) := by simp [Sp.setop]
  have HU := fun k hk => bit_or s t k hk hs hs1 ht ht1
  have HD := fun k hk => bit_not s t k hk hs hs1 ht ht1
  generalize bits .or .u32 s t = u at *
  generalize bits .andNot .u32 s t = d at *
  have HU2 := Lib.hid HU
  have HD2 := Lib.hid HD
  clear HU HD
  by_cases hy : Y ≤ 0
  · have eQ : Sp.aint [68, 73, 86] X Y = (0, 6, true) := by simp [Sp.aint, hy]
    have eR : Sp.aint [77, 79, 68] X Y = (0, 6, true) := by simp [Sp.aint, hy]
    go_enter Try.func12, Try.ntmps12
    go_wp2_with fail
    go_quiet (fail)
    go_wp2_with (first | (go_at_call 27; refine (mo (Int_any _ _ _ _)).mono ?_; rintro e w' ⟨rfl, g, rfl⟩) | (go_at_call 36; refine (set_any _ _ _ _).mono ?_; rintro e w1 ⟨rfl, rfl⟩))
    go_loop [33] (fun i => ∃ k : Nat, k ≤ 32 ∧ i = .int .i64 k) (fun i => 32 - (intOf i).toNat)
    case atStart => exact ⟨0, by omega, rfl⟩
    case round =>
      obtain ⟨k, hk, rfl⟩ := hrel
      by_cases hlt : k < 32
      · have hu := HU2.out k hlt
        have hd := HD2.out k hlt
        generalize hbs : Sp.elem k s = bs at *
        generalize hbt : Sp.elem k t = bt at *
        cases bs <;> cases bt
        all_goals
          simp only [Bool.or_true, Bool.or_false, Bool.and_true, Bool.and_false, Bool.not_true, Bool.not_false] at hu hd
          go_wp2_with (go_at_call 38; refine (elem_any _ _ _ (by omega) (by omega)).mono ?_; rintro e w' ⟨rfl, rfl⟩)
          go_round
          case rel => exact ⟨k + 1, by omega, by go_num⟩
          case measure => simp [intOf]; omega
      · go_wp2_with (go_at_call 24; refine (mo (wakes20_any _)).mono ?_; rintro e w' ⟨rfl, g, rfl⟩)
        go_ret
        exact ⟨rfl, (by repeat' (first | (with_reducible exact Below.refl _ _) | (with_reducible assumption) | (with_reducible refine below_more ?_ ?_ _) | (with_reducible refine below_drewN ?_ _) | (with_reducible refine Below.drew ?_) | (with_reducible refine Below.alloc ?_ ?_ _) | (with_reducible refine Below.setCell ?_ ?_ _) | go_size))⟩
  · have hq := (Sp.fit_iff _).1 (Sp.div_ok X Y hX (by omega))
    have hr := (Sp.fit_iff _).1 (Sp.mod_ok X Y hX (by omega) (by omega))
    have r0 := Int.emod_nonneg X (b := Y) (by omega)
    have r1 := Int.emod_lt_of_pos X (b := Y) (by omega)
    have hbk := turn_back X Y hX (by omega) hr
    have eQ : Sp.aint [68, 73, 86] X Y = (X / Y, 0, true) := by simp [Sp.aint, hy]
    have eR : Sp.aint [77, 79, 68] X Y = (X % Y, 0, true) := by simp [Sp.aint, hy]
    have eP : Sp.aint [42] (X / Y) Y = (Sp.sgn (X / Y * Y % 4294967296), 0, true) := by simp [Sp.aint]
    have eB : Sp.aint [43] (Sp.sgn (X / Y * Y % 4294967296)) (X % Y) = (X, 0, true) := by simp [Sp.aint, hbk]
    have hp := Sp.sgn_bd (X / Y * Y % 4294967296) (by omega) (by omega)
    generalize Sp.sgn (X / Y * Y % 4294967296) = p at *
    generalize X / Y = q at *
    generalize X % Y = r at *
    have ep := sgn_mod_self p hp
    have eq' := sgn_mod_self q hq
    have er := sgn_mod_self r hr
    clear hbk
    go_enter Try.func12, Try.ntmps12
    go_wp2_with fail
    go_quiet (fail)
    go_wp2_with (first | (go_at_call 27; refine (mo (Int_any _ _ _ _)).mono ?_; rintro e w' ⟨rfl, g, rfl⟩) | (go_at_call 36; refine (set_any _ _ _ _).mono ?_; rintro e w1 ⟨rfl, rfl⟩))
    go_loop [33] (fun i => ∃ k : Nat, k ≤ 32 ∧ i = .int .i64 k) (fun i => 32 - (intOf i).toNat)
    case atStart => exact ⟨0, by omega, rfl⟩
    case round =>
      obtain ⟨k, hk, rfl⟩ := hrel
      by_cases hlt : k < 32
      · have hu := HU2.out k hlt
        have hd := HD2.out k hlt
        generalize hbs : Sp.elem k s = bs at *
        generalize hbt : Sp.elem k t = bt at *
        cases bs <;> cases bt
        all_goals
          simp only [Bool.or_true, Bool.or_false, Bool.and_true, Bool.and_false, Bool.not_true, Bool.not_false] at hu hd
          go_wp2_with (go_at_call 38; refine (elem_any _ _ _ (by omega) (by omega)).mono ?_; rintro e w' ⟨rfl, rfl⟩)
          go_round
          case rel => exact ⟨k + 1, by omega, by go_num⟩
          case measure => simp [intOf]; omega
      · go_wp2_with (go_at_call 24; refine (mo (wakes20_any _)).mono ?_; rintro e w' ⟨rfl, g, rfl⟩)
        go_ret
        exact ⟨rfl, (by repeat' (first | (with_reducible exact Below.refl _ _) | (with_reducible assumption) | (with_reducible refine below_more ?_ ?_ _) | (with_reducible refine below_drewN ?_ _) | (with_reducible refine Below.drew ?_) | (with_reducible refine Below.alloc ?_ ?_ _) | (with_reducible refine Below.setCell ?_ ?_ _) | go_size))⟩
end Go.Proofs.Ythcpedonpiihnaa
