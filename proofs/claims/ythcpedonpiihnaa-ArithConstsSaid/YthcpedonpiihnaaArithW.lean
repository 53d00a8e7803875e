/- The walks of the package arith and of the document's answer to it (ref20). Conditions: none beyond the words' bounds. -/
import Derived.Test.YthcpedonpiihnaaMapW
import Derived.WalkLawsBesides
namespace Go.Proofs.Ythcpedonpiihnaa
set_option linter.unusedSimpArgs false
set_option linter.unusedVariables false
open Go.RowKit
theorem round_any (n : Int) (w : World) :
    Calls Try.prog 69 #[.int .i64 n] w fun e w' => e = .returned (.int .i64 (Sp.sgn (n % 4294967296))) ∧ w = w' := by
  go_enter Try.func69, Try.ntmps69
  go_wp2_with (first | (go_at_call 85; refine (word_any _ _).mono ?_; rintro e w' ⟨rfl, rfl⟩) | (go_at_call 86; refine (signed_any _ _ (by omega) (by omega)).mono ?_; rintro e w' ⟨rfl, rfl⟩))
  go_ret
  exact ⟨rfl, rfl⟩
theorem rest_mod (a b : Int) (hb : 0 < b) : (a.tmod b + b).tmod b = a % b := by
  have h := Int.tmod_eq_emod (a := a) (b := b)
  have h1 := Int.emod_nonneg a (b := b) (by omega)
  have h2 := Int.emod_lt_of_pos a hb
  have e : 0 ≤ a.tmod b + b := by rw [h]; split <;> omega
  rw [Int.tmod_eq_emod_of_nonneg e, h]
  split
  · rw [show a % b - ((0 : Nat) : Int) = a % b from by omega, Int.add_emod_right, Int.emod_emod_of_dvd _ (by exact Int.dvd_refl b)]
  · rw [show a % b - ↑b.natAbs + b = a % b from by omega, Int.emod_emod_of_dvd _ (by exact Int.dvd_refl b)]
theorem rest_any (a b : Int) (w : World) (hb : 0 < b) (hb1 : b < 2147483648) :
    Calls Try.prog 74 #[.int .i64 a, .int .i64 b] w fun e w' => e = .returned (.int .i64 (a % b)) ∧ w = w' := by
  have hm := Lib.hid (rest_mod a b hb)
  have h3 : -2147483648 ≤ a.tmod b ∧ a.tmod b < 2147483648 := by
    have h := Int.tmod_eq_emod (a := a) (b := b)
    have h1 := Int.emod_nonneg a (b := b) (by omega)
    have h2 := Int.emod_lt_of_pos a hb
    rw [h]; split <;> omega
  go_enter Try.func74, Try.ntmps74
  go_wp2
  go_ret
  exact ⟨ret_int hm.out, rfl⟩

/-- the five closures of arith.Int, over the two cells that they share -/
theorem Int1_any (p q : Addr) (x y : Int) (W : World) (hp : W.cell? p = some (.int .i64 x)) (hq : W.cell? q = some (.int .i64 y)) (hx : -2147483648 ≤ x ∧ x < 2147483648) (hy : -2147483648 ≤ y ∧ y < 2147483648) :
    Calls Try.prog 70 #[.pointer (some p), .pointer (some q)] W fun e w' => e = .returned (.int .i64 (x + y)) ∧ ∃ n, w' = W.drewN n := by
  go_enter Try.func70, Try.ntmps70
  go_wp2
  first
    | (go_ret; exact ⟨rfl, 0, rfl⟩)
    | (go_quiet (fail); go_wp2; go_ret; exact ⟨rfl, _, rfl⟩)
theorem Int2_any (p q : Addr) (x y : Int) (W : World) (hp : W.cell? p = some (.int .i64 x)) (hq : W.cell? q = some (.int .i64 y)) (hx : -2147483648 ≤ x ∧ x < 2147483648) (hy : -2147483648 ≤ y ∧ y < 2147483648) :
    Calls Try.prog 71 #[.pointer (some p), .pointer (some q)] W fun e w' => e = .returned (.int .i64 (x - y)) ∧ ∃ n, w' = W.drewN n := by
  go_enter Try.func71, Try.ntmps71
  go_wp2
  first
    | (go_ret; exact ⟨rfl, 0, rfl⟩)
    | (go_quiet (fail); go_wp2; go_ret; exact ⟨rfl, _, rfl⟩)
theorem mul_bd (x y : Int) (hx : -2147483648 ≤ x ∧ x < 2147483648) (hy : -2147483648 ≤ y ∧ y < 2147483648) : -4611686018427387904 ≤ x * y ∧ x * y ≤ 4611686018427387904 := by
  have h1 : (x * y).natAbs = x.natAbs * y.natAbs := Int.natAbs_mul x y
  have h2 : x.natAbs * y.natAbs ≤ 2147483648 * 2147483648 := Nat.mul_le_mul (by omega) (by omega)
  omega
theorem Int3_any (p q : Addr) (x y : Int) (W : World) (hp : W.cell? p = some (.int .i64 x)) (hq : W.cell? q = some (.int .i64 y)) (hx : -2147483648 ≤ x ∧ x < 2147483648) (hy : -2147483648 ≤ y ∧ y < 2147483648) :
    Calls Try.prog 72 #[.pointer (some p), .pointer (some q)] W fun e w' => e = .returned (.int .i64 (x * y)) ∧ ∃ n, w' = W.drewN n := by
  have hm := mul_bd x y hx hy
  go_enter Try.func72, Try.ntmps72
  go_wp2
  first
    | (go_ret; exact ⟨rfl, 0, rfl⟩)
    | (go_quiet (fail); go_wp2; go_ret; exact ⟨rfl, _, rfl⟩)
theorem quo_rest (x y : Int) (hy : 0 < y) : (x - x % y).tdiv y = x / y := by
  have h := Int.emod_add_mul_ediv x y
  rw [show x - x % y = y * (x / y) from by omega, Int.mul_tdiv_cancel_left _ (by omega)]
theorem Int4_any (p q : Addr) (x y : Int) (W : World) (hp : W.cell? p = some (.int .i64 x)) (hq : W.cell? q = some (.int .i64 y)) (hx : -2147483648 ≤ x ∧ x < 2147483648) (hy : 0 < y ∧ y < 2147483648) :
    Calls Try.prog 73 #[.pointer (some p), .pointer (some q)] W fun e w' => e = .returned (.int .i64 (x / y)) ∧ ∃ n, w' = W.drewN n := by
  have hm := Lib.hid (quo_rest x y hy.1)
  have h1 := Int.emod_nonneg x (b := y) (by omega)
  have h2 := Int.emod_lt_of_pos x hy.1
  go_enter Try.func73, Try.ntmps73
  go_wp2_with fail
  go_quiet ((go_at_call 74; exact q_left (rest_any _ _ _ (by omega) (by omega))))
  go_wp2
  go_ret
  exact ⟨ret_int hm.out, _, rfl⟩
theorem Int5_any (p q : Addr) (x y : Int) (W : World) (hp : W.cell? p = some (.int .i64 x)) (hq : W.cell? q = some (.int .i64 y)) (hy : 0 < y ∧ y < 2147483648) :
    Calls Try.prog 75 #[.pointer (some p), .pointer (some q)] W fun e w' => e = .returned (.int .i64 (x % y)) ∧ ∃ n, w' = W.drewN n := by
  go_enter Try.func75, Try.ntmps75
  first
    | (go_wp2_with (go_at_call 74; refine (rest_any _ _ _ (by omega) (by omega)).mono ?_; rintro e w' ⟨rfl, rfl⟩); go_ret; exact ⟨rfl, 0, rfl⟩)
    | (go_wp2_with fail; go_quiet ((go_at_call 74; exact q_left (rest_any _ _ _ (by omega) (by omega)))); go_wp2; go_ret; exact ⟨rfl, _, rfl⟩)

set_option maxHeartbeats 1600000 in
theorem Int_any (op : ByteArray) (a b : Int) (w : World) :
    Calls Try.prog 27 #[.string op, .int .i64 a, .int .i64 b] w fun e w' =>
      e = .returned (Sp.three (Sp.aint op.toList (Sp.sgn (a % 4294967296)) (Sp.sgn (b % 4294967296)))) ∧ Below w.heap.size w w' := by
  have hmm := @run_makeMap Try.prog
  have hsa := Sp.sgn_bd (a % 4294967296) (by omega) (by omega)
  have hsb := Sp.sgn_bd (b % 4294967296) (by omega) (by omega)
  go_enter Try.func27, Try.ntmps27
  go_upto_region 1 with fail
  go_cut [4] (fun v4 w' => v4 = .pointer (some ⟨w.heap.size, 0, none⟩) ∧ w'.cell? ⟨w.heap.size, 0, none⟩ = some (.int .i64 (Sp.sgn (a % 4294967296))) ∧ w'.cell? ⟨w.heap.size + 1, 0, none⟩ = some (.int .i64 (Sp.sgn (b % 4294967296))) ∧ w.heap.size + 1 < w'.heap.size ∧ Below w.heap.size w w')
  case first =>
    go_region_with (go_at_call 69; refine (round_any _ _).mono ?_; rintro e w' ⟨rfl, rfl⟩)
    all_goals
      go_wp2_with fail
      go_meet
      case rel => exact ⟨rfl, by simp [go_sem], by simp [go_sem], by simp, by go_grown⟩
  case rest =>
    obtain ⟨rfl, hc4, hc5, hsz, hB⟩ := hcut
    have hs0 : w.heap.size < wc.heap.size := by omega
    generalize hX : Sp.sgn (a % 4294967296) = x at *
    generalize hY : Sp.sgn (b % 4294967296) = y at *
    have HX := Lib.hid hX; clear hX
    have HY := Lib.hid hY; clear hY
    by_cases h1 : op = ⟨#[43]⟩
    · subst h1
      go_wp2_with (first | ((with_reducible refine wpList_insert_last ?_ Try.underlying93 Try.underlying9 ?_ ?_ ?_); (focus rfl); (focus exact True.intro); (focus rfl); simp only [Act.eval]) | ((with_reducible refine wpList_look ?_ ?_ ?_ (last_map _ _ _) Try.underlying93 Try.underlying9 ?_ ?_ ?_); rotate_left 2; (focus rfl); (focus exact True.intro); (focus rfl)) | (go_at_call 69; refine (round_any _ _).mono ?_; rintro e w' ⟨rfl, rfl⟩) | (go_at_call 70; refine (Int1_any _ _ x y _ (by simp [go_sem, hs0, hc4]) (by simp [go_sem, hsz, hc5]) hsa hsb).mono ?_; rintro e w' ⟨rfl, nd, rfl⟩) | (go_at_call 71; refine (Int2_any _ _ x y _ (by simp [go_sem, hs0, hc4]) (by simp [go_sem, hsz, hc5]) hsa hsb).mono ?_; rintro e w' ⟨rfl, nd, rfl⟩) | (go_at_call 72; refine (Int3_any _ _ x y _ (by simp [go_sem, hs0, hc4]) (by simp [go_sem, hsz, hc5]) hsa hsb).mono ?_; rintro e w' ⟨rfl, nd, rfl⟩) | (go_at_call 73; refine (Int4_any _ _ x y _ (by simp [go_sem, hs0, hc4]) (by simp [go_sem, hsz, hc5]) hsa (by omega)).mono ?_; rintro e w' ⟨rfl, nd, rfl⟩) | (go_at_call 75; refine (Int5_any _ _ x y _ (by simp [go_sem, hs0, hc4]) (by simp [go_sem, hsz, hc5]) (by omega)).mono ?_; rintro e w' ⟨rfl, nd, rfl⟩))
      go_ret3
      exact ⟨by rw [HX.out, HY.out]; simp [Sp.aint, Sp.three], below_drewN (hB.alloc (by omega) _) _⟩
    by_cases h2 : op = ⟨#[45]⟩
    · subst h2
      go_wp2_with (first | ((with_reducible refine wpList_insert_last ?_ Try.underlying93 Try.underlying9 ?_ ?_ ?_); (focus rfl); (focus exact True.intro); (focus rfl); simp only [Act.eval]) | ((with_reducible refine wpList_look ?_ ?_ ?_ (last_map _ _ _) Try.underlying93 Try.underlying9 ?_ ?_ ?_); rotate_left 2; (focus rfl); (focus exact True.intro); (focus rfl)) | (go_at_call 69; refine (round_any _ _).mono ?_; rintro e w' ⟨rfl, rfl⟩) | (go_at_call 70; refine (Int1_any _ _ x y _ (by simp [go_sem, hs0, hc4]) (by simp [go_sem, hsz, hc5]) hsa hsb).mono ?_; rintro e w' ⟨rfl, nd, rfl⟩) | (go_at_call 71; refine (Int2_any _ _ x y _ (by simp [go_sem, hs0, hc4]) (by simp [go_sem, hsz, hc5]) hsa hsb).mono ?_; rintro e w' ⟨rfl, nd, rfl⟩) | (go_at_call 72; refine (Int3_any _ _ x y _ (by simp [go_sem, hs0, hc4]) (by simp [go_sem, hsz, hc5]) hsa hsb).mono ?_; rintro e w' ⟨rfl, nd, rfl⟩) | (go_at_call 73; refine (Int4_any _ _ x y _ (by simp [go_sem, hs0, hc4]) (by simp [go_sem, hsz, hc5]) hsa (by omega)).mono ?_; rintro e w' ⟨rfl, nd, rfl⟩) | (go_at_call 75; refine (Int5_any _ _ x y _ (by simp [go_sem, hs0, hc4]) (by simp [go_sem, hsz, hc5]) (by omega)).mono ?_; rintro e w' ⟨rfl, nd, rfl⟩))
      go_ret3
      exact ⟨by rw [HX.out, HY.out]; simp [Sp.aint, Sp.three], below_drewN (hB.alloc (by omega) _) _⟩
    by_cases h3 : op = ⟨#[42]⟩
    · subst h3
      go_wp2_with (first | ((with_reducible refine wpList_insert_last ?_ Try.underlying93 Try.underlying9 ?_ ?_ ?_); (focus rfl); (focus exact True.intro); (focus rfl); simp only [Act.eval]) | ((with_reducible refine wpList_look ?_ ?_ ?_ (last_map _ _ _) Try.underlying93 Try.underlying9 ?_ ?_ ?_); rotate_left 2; (focus rfl); (focus exact True.intro); (focus rfl)) | (go_at_call 69; refine (round_any _ _).mono ?_; rintro e w' ⟨rfl, rfl⟩) | (go_at_call 70; refine (Int1_any _ _ x y _ (by simp [go_sem, hs0, hc4]) (by simp [go_sem, hsz, hc5]) hsa hsb).mono ?_; rintro e w' ⟨rfl, nd, rfl⟩) | (go_at_call 71; refine (Int2_any _ _ x y _ (by simp [go_sem, hs0, hc4]) (by simp [go_sem, hsz, hc5]) hsa hsb).mono ?_; rintro e w' ⟨rfl, nd, rfl⟩) | (go_at_call 72; refine (Int3_any _ _ x y _ (by simp [go_sem, hs0, hc4]) (by simp [go_sem, hsz, hc5]) hsa hsb).mono ?_; rintro e w' ⟨rfl, nd, rfl⟩) | (go_at_call 73; refine (Int4_any _ _ x y _ (by simp [go_sem, hs0, hc4]) (by simp [go_sem, hsz, hc5]) hsa (by omega)).mono ?_; rintro e w' ⟨rfl, nd, rfl⟩) | (go_at_call 75; refine (Int5_any _ _ x y _ (by simp [go_sem, hs0, hc4]) (by simp [go_sem, hsz, hc5]) (by omega)).mono ?_; rintro e w' ⟨rfl, nd, rfl⟩))
      go_ret3
      exact ⟨by rw [HX.out, HY.out]; simp [Sp.aint, Sp.three], below_drewN (hB.alloc (by omega) _) _⟩
    by_cases h4 : op = ⟨#[68, 73, 86]⟩
    · subst h4
      by_cases hy : y ≤ 0
      · go_wp2_with (first | ((with_reducible refine wpList_insert_last ?_ Try.underlying93 Try.underlying9 ?_ ?_ ?_); (focus rfl); (focus exact True.intro); (focus rfl); simp only [Act.eval]) | ((with_reducible refine wpList_look ?_ ?_ ?_ (last_map _ _ _) Try.underlying93 Try.underlying9 ?_ ?_ ?_); rotate_left 2; (focus rfl); (focus exact True.intro); (focus rfl)) | (go_at_call 69; refine (round_any _ _).mono ?_; rintro e w' ⟨rfl, rfl⟩))
        go_ret3
        exact ⟨by rw [HX.out, HY.out]; simp [Sp.aint, Sp.three, hy], hB.alloc (by omega) _⟩
      · have hf := Sp.div_ok x y hsa (by omega)
        go_wp2_with (first | ((with_reducible refine wpList_insert_last ?_ Try.underlying93 Try.underlying9 ?_ ?_ ?_); (focus rfl); (focus exact True.intro); (focus rfl); simp only [Act.eval]) | ((with_reducible refine wpList_look ?_ ?_ ?_ (last_map _ _ _) Try.underlying93 Try.underlying9 ?_ ?_ ?_); rotate_left 2; (focus rfl); (focus exact True.intro); (focus rfl)) | (go_at_call 69; refine (round_any _ _).mono ?_; rintro e w' ⟨rfl, rfl⟩) | (go_at_call 70; refine (Int1_any _ _ x y _ (by simp [go_sem, hs0, hc4]) (by simp [go_sem, hsz, hc5]) hsa hsb).mono ?_; rintro e w' ⟨rfl, nd, rfl⟩) | (go_at_call 71; refine (Int2_any _ _ x y _ (by simp [go_sem, hs0, hc4]) (by simp [go_sem, hsz, hc5]) hsa hsb).mono ?_; rintro e w' ⟨rfl, nd, rfl⟩) | (go_at_call 72; refine (Int3_any _ _ x y _ (by simp [go_sem, hs0, hc4]) (by simp [go_sem, hsz, hc5]) hsa hsb).mono ?_; rintro e w' ⟨rfl, nd, rfl⟩) | (go_at_call 73; refine (Int4_any _ _ x y _ (by simp [go_sem, hs0, hc4]) (by simp [go_sem, hsz, hc5]) hsa (by omega)).mono ?_; rintro e w' ⟨rfl, nd, rfl⟩) | (go_at_call 75; refine (Int5_any _ _ x y _ (by simp [go_sem, hs0, hc4]) (by simp [go_sem, hsz, hc5]) (by omega)).mono ?_; rintro e w' ⟨rfl, nd, rfl⟩))
        go_ret3
        exact ⟨by rw [HX.out, HY.out]; simp [Sp.aint, Sp.three, show ¬ y ≤ 0 from by omega, Sp.sgn_word _ hf], below_drewN (hB.alloc (by omega) _) _⟩
    by_cases h5 : op = ⟨#[77, 79, 68]⟩
    · subst h5
      by_cases hy : y ≤ 0
      · go_wp2_with (first | ((with_reducible refine wpList_insert_last ?_ Try.underlying93 Try.underlying9 ?_ ?_ ?_); (focus rfl); (focus exact True.intro); (focus rfl); simp only [Act.eval]) | ((with_reducible refine wpList_look ?_ ?_ ?_ (last_map _ _ _) Try.underlying93 Try.underlying9 ?_ ?_ ?_); rotate_left 2; (focus rfl); (focus exact True.intro); (focus rfl)) | (go_at_call 69; refine (round_any _ _).mono ?_; rintro e w' ⟨rfl, rfl⟩))
        go_ret3
        exact ⟨by rw [HX.out, HY.out]; simp [Sp.aint, Sp.three, hy], hB.alloc (by omega) _⟩
      · have hf := Sp.mod_ok x y hsa (by omega) (by omega)
        go_wp2_with (first | ((with_reducible refine wpList_insert_last ?_ Try.underlying93 Try.underlying9 ?_ ?_ ?_); (focus rfl); (focus exact True.intro); (focus rfl); simp only [Act.eval]) | ((with_reducible refine wpList_look ?_ ?_ ?_ (last_map _ _ _) Try.underlying93 Try.underlying9 ?_ ?_ ?_); rotate_left 2; (focus rfl); (focus exact True.intro); (focus rfl)) | (go_at_call 69; refine (round_any _ _).mono ?_; rintro e w' ⟨rfl, rfl⟩) | (go_at_call 70; refine (Int1_any _ _ x y _ (by simp [go_sem, hs0, hc4]) (by simp [go_sem, hsz, hc5]) hsa hsb).mono ?_; rintro e w' ⟨rfl, nd, rfl⟩) | (go_at_call 71; refine (Int2_any _ _ x y _ (by simp [go_sem, hs0, hc4]) (by simp [go_sem, hsz, hc5]) hsa hsb).mono ?_; rintro e w' ⟨rfl, nd, rfl⟩) | (go_at_call 72; refine (Int3_any _ _ x y _ (by simp [go_sem, hs0, hc4]) (by simp [go_sem, hsz, hc5]) hsa hsb).mono ?_; rintro e w' ⟨rfl, nd, rfl⟩) | (go_at_call 73; refine (Int4_any _ _ x y _ (by simp [go_sem, hs0, hc4]) (by simp [go_sem, hsz, hc5]) hsa (by omega)).mono ?_; rintro e w' ⟨rfl, nd, rfl⟩) | (go_at_call 75; refine (Int5_any _ _ x y _ (by simp [go_sem, hs0, hc4]) (by simp [go_sem, hsz, hc5]) (by omega)).mono ?_; rintro e w' ⟨rfl, nd, rfl⟩))
        go_ret3
        exact ⟨by rw [HX.out, HY.out]; simp [Sp.aint, Sp.three, show ¬ y ≤ 0 from by omega, Sp.sgn_word _ hf], below_drewN (hB.alloc (by omega) _) _⟩
    have e1 := str_ne h1; have e2 := str_ne h2; have e3 := str_ne h3; have e4 := str_ne h4; have e5 := str_ne h5
    have hno : ∀ v1 v2 v3 v4 v5 : Value, Instr.findNow .string (.string op) [⟨.string ⟨#[43]⟩, v1, 0⟩, ⟨.string ⟨#[45]⟩, v2, 1⟩, ⟨.string ⟨#[42]⟩, v3, 2⟩, ⟨.string ⟨#[68, 73, 86]⟩, v4, 3⟩, ⟨.string ⟨#[77, 79, 68]⟩, v5, 4⟩] 0 = some none := by
      intros; simp [Instr.findNow, Instr.sameNow, bytes_ne e1, bytes_ne e2, bytes_ne e3, bytes_ne e4, bytes_ne e5]
    have HNO := Lib.hid hno; clear hno h1 h2 h3 h4 h5
    go_wp2_with (first | ((with_reducible refine wpList_insert_last ?_ Try.underlying93 Try.underlying9 ?_ ?_ ?_); (focus rfl); (focus exact True.intro); (focus rfl); simp only [Act.eval]) | ((with_reducible refine wpList_look_no (.nilFunc) ?_ (last_map _ _ _) Try.underlying93 ?_ Try.underlying9 ?_ ?_ ?_); (focus rfl); (focus kernel_rfl); (focus exact True.intro); (focus exact HNO.out _ _ _ _ _)))
    go_ret3
    exact ⟨by simp only [ByteArray.toList_mk] at e1 e2 e3 e4 e5; simp [Sp.aint, Sp.three, e1, e2, e3, e4, e5], hB.alloc (by omega) _⟩

end Go.Proofs.Ythcpedonpiihnaa
