/- The walks of the closures on sets, of the relations and of the operations of truths that the package consts lays into its table. Conditions: numbers lie in their bounds; what a closure holds lies in its cell. -/
import Derived.Test.YthcpedonpiihnaaConX
import Derived.StillTailTactics
namespace Go.Proofs.Ythcpedonpiihnaa
set_option linter.unusedSimpArgs false
set_option linter.unusedVariables false
open Go.RowKit
theorem region_tail {P : Program} {id : Nat} {Q : Exit → Act → World → Prop} {a : Act} {w : World} {l : List Oper} (n : Nat) (hm : P.follows .mixedOrders = true) (hB : Region.lexTailB .any l.toArray n = true)
    (h : wpStill P l.toArray w.drew (fun a' => wpList P l.toArray Q (l.drop n) a' w.drew) (l.take n) a) : (Code.region id l.toArray true).wp P Q a w := wp_region_still_tail n hm hB h
theorem sym {P : Program} {f : FuncId} {args : Array Value} {w : World} {v : Value} (h : Calls P f args w fun e w' => e = .returned v ∧ w = w') : Calls P f args w fun e w' => e = .returned v ∧ w' = w := h.mono fun _ _ ⟨a, b⟩ => ⟨a, b.symm⟩
theorem bits_u32_bd (op : BinOp) (x y : Int) (h : op = .or ∨ op = .andNot ∨ op = .and ∨ op = .xor) (hx : 0 ≤ x) (hx1 : x < 4294967296) (hy : 0 ≤ y) (hy1 : y < 4294967296) : 0 ≤ bits op .u32 x y ∧ bits op .u32 x y < 4294967296 := by
  have h1 : x.toNat ||| y.toNat < 2 ^ 32 := Nat.or_lt_two_pow (by omega) (by omega)
  have h2 : x.toNat &&& (4294967295 - y.toNat) < 2 ^ 32 := Nat.and_lt_two_pow _ (by omega)
  have h3 : x.toNat &&& y.toNat < 2 ^ 32 := Nat.and_lt_two_pow _ (by omega)
  have h4 : x.toNat ^^^ y.toNat < 2 ^ 32 := Nat.xor_lt_two_pow (by omega) (by omega)
  rcases h with rfl | rfl | rfl | rfl
  · rw [u32_or x y hx hx1 hy hy1]; omega
  · rw [u32_andNot x y hx hx1 hy hy1]; omega
  · rw [u32_and x y hx hx1 hy hy1]; omega
  · rw [u32_xor x y hx hx1 hy hy1]; omega
theorem sets2_any (x y : Int) (w : World) :
    Calls Try.prog 105 #[.int .u32 x, .int .u32 y] w fun e w' => e = .returned (.int .u32 (bits .or .u32 x y)) ∧ w = w' := by
  go_enter Try.func105, Try.ntmps105
  go_wp2
  go_ret
  exact ⟨rfl, rfl⟩
theorem sets11_2 (p : Nat) (f f' x y : Int) (t t' : ByteArray) (w : World) (hx : 0 ≤ x) (hx1 : x < 4294967296) (hy : 0 ≤ y) (hy1 : y < 4294967296) (hp : w.cell? ⟨p, 0, none⟩ = some (.func (.func 105) #[] #[])) (hl : p < w.heap.size) :
    Calls Try.prog 104 #[.agg #[.int .i64 f, .int .i64 x, .string t], .agg #[.int .i64 f', .int .i64 y, .string t'], .pointer (some ⟨p, 0, none⟩)] w fun e w' => e = .returned (Sp.R (4, bits .or .u32 x y, 0)) ∧ ∃ g, w' = more w g := by
  have hl1 : p < w.heap.size + 1 := by omega
  have hl2 : p < w.heap.size + 1 + 1 := by omega
  obtain ⟨b0, b1⟩ := bits_u32_bd .or x y (by simp) hx hx1 hy hy1
  go_enter Try.func104, Try.ntmps104
  go_wp2_with (first | (go_at_call 105; refine (sets2_any _ _ _).mono ?_; rintro e w' ⟨rfl, rfl⟩) | (go_at_call 63; refine (cset_any _ _ b0 b1).mono ?_; rintro e w' ⟨rfl, g, rfl⟩))
  go_returns
  exact ⟨rfl, more_of_below (by repeat' (first | (with_reducible exact Below.refl _ _) | (with_reducible assumption) | (with_reducible refine below_more ?_ ?_ _) | (with_reducible refine below_drewN ?_ _) | (with_reducible refine Below.drew ?_) | (with_reducible refine Below.alloc ?_ ?_ _) | (with_reducible refine Below.setCell ?_ ?_ _) | go_size))⟩
theorem sets3_any (x y : Int) (w : World) :
    Calls Try.prog 106 #[.int .u32 x, .int .u32 y] w fun e w' => e = .returned (.int .u32 (bits .andNot .u32 x y)) ∧ w = w' := by
  go_enter Try.func106, Try.ntmps106
  go_wp2
  go_ret
  exact ⟨rfl, rfl⟩
theorem sets11_3 (p : Nat) (f f' x y : Int) (t t' : ByteArray) (w : World) (hx : 0 ≤ x) (hx1 : x < 4294967296) (hy : 0 ≤ y) (hy1 : y < 4294967296) (hp : w.cell? ⟨p, 0, none⟩ = some (.func (.func 106) #[] #[])) (hl : p < w.heap.size) :
    Calls Try.prog 104 #[.agg #[.int .i64 f, .int .i64 x, .string t], .agg #[.int .i64 f', .int .i64 y, .string t'], .pointer (some ⟨p, 0, none⟩)] w fun e w' => e = .returned (Sp.R (4, bits .andNot .u32 x y, 0)) ∧ ∃ g, w' = more w g := by
  have hl1 : p < w.heap.size + 1 := by omega
  have hl2 : p < w.heap.size + 1 + 1 := by omega
  obtain ⟨b0, b1⟩ := bits_u32_bd .andNot x y (by simp) hx hx1 hy hy1
  go_enter Try.func104, Try.ntmps104
  go_wp2_with (first | (go_at_call 106; refine (sets3_any _ _ _).mono ?_; rintro e w' ⟨rfl, rfl⟩) | (go_at_call 63; refine (cset_any _ _ b0 b1).mono ?_; rintro e w' ⟨rfl, g, rfl⟩))
  go_returns
  exact ⟨rfl, more_of_below (by repeat' (first | (with_reducible exact Below.refl _ _) | (with_reducible assumption) | (with_reducible refine below_more ?_ ?_ _) | (with_reducible refine below_drewN ?_ _) | (with_reducible refine Below.drew ?_) | (with_reducible refine Below.alloc ?_ ?_ _) | (with_reducible refine Below.setCell ?_ ?_ _) | go_size))⟩
theorem sets4_any (x y : Int) (w : World) :
    Calls Try.prog 107 #[.int .u32 x, .int .u32 y] w fun e w' => e = .returned (.int .u32 (bits .and .u32 x y)) ∧ w = w' := by
  go_enter Try.func107, Try.ntmps107
  go_wp2
  go_ret
  exact ⟨rfl, rfl⟩
theorem sets11_4 (p : Nat) (f f' x y : Int) (t t' : ByteArray) (w : World) (hx : 0 ≤ x) (hx1 : x < 4294967296) (hy : 0 ≤ y) (hy1 : y < 4294967296) (hp : w.cell? ⟨p, 0, none⟩ = some (.func (.func 107) #[] #[])) (hl : p < w.heap.size) :
    Calls Try.prog 104 #[.agg #[.int .i64 f, .int .i64 x, .string t], .agg #[.int .i64 f', .int .i64 y, .string t'], .pointer (some ⟨p, 0, none⟩)] w fun e w' => e = .returned (Sp.R (4, bits .and .u32 x y, 0)) ∧ ∃ g, w' = more w g := by
  have hl1 : p < w.heap.size + 1 := by omega
  have hl2 : p < w.heap.size + 1 + 1 := by omega
  obtain ⟨b0, b1⟩ := bits_u32_bd .and x y (by simp) hx hx1 hy hy1
  go_enter Try.func104, Try.ntmps104
  go_wp2_with (first | (go_at_call 107; refine (sets4_any _ _ _).mono ?_; rintro e w' ⟨rfl, rfl⟩) | (go_at_call 63; refine (cset_any _ _ b0 b1).mono ?_; rintro e w' ⟨rfl, g, rfl⟩))
  go_returns
  exact ⟨rfl, more_of_below (by repeat' (first | (with_reducible exact Below.refl _ _) | (with_reducible assumption) | (with_reducible refine below_more ?_ ?_ _) | (with_reducible refine below_drewN ?_ _) | (with_reducible refine Below.drew ?_) | (with_reducible refine Below.alloc ?_ ?_ _) | (with_reducible refine Below.setCell ?_ ?_ _) | go_size))⟩
theorem sets5_any (x y : Int) (w : World) :
    Calls Try.prog 108 #[.int .u32 x, .int .u32 y] w fun e w' => e = .returned (.int .u32 (bits .xor .u32 x y)) ∧ w = w' := by
  go_enter Try.func108, Try.ntmps108
  go_wp2
  go_ret
  exact ⟨rfl, rfl⟩
theorem sets11_5 (p : Nat) (f f' x y : Int) (t t' : ByteArray) (w : World) (hx : 0 ≤ x) (hx1 : x < 4294967296) (hy : 0 ≤ y) (hy1 : y < 4294967296) (hp : w.cell? ⟨p, 0, none⟩ = some (.func (.func 108) #[] #[])) (hl : p < w.heap.size) :
    Calls Try.prog 104 #[.agg #[.int .i64 f, .int .i64 x, .string t], .agg #[.int .i64 f', .int .i64 y, .string t'], .pointer (some ⟨p, 0, none⟩)] w fun e w' => e = .returned (Sp.R (4, bits .xor .u32 x y, 0)) ∧ ∃ g, w' = more w g := by
  have hl1 : p < w.heap.size + 1 := by omega
  have hl2 : p < w.heap.size + 1 + 1 := by omega
  obtain ⟨b0, b1⟩ := bits_u32_bd .xor x y (by simp) hx hx1 hy hy1
  go_enter Try.func104, Try.ntmps104
  go_wp2_with (first | (go_at_call 108; refine (sets5_any _ _ _).mono ?_; rintro e w' ⟨rfl, rfl⟩) | (go_at_call 63; refine (cset_any _ _ b0 b1).mono ?_; rintro e w' ⟨rfl, g, rfl⟩))
  go_returns
  exact ⟨rfl, more_of_below (by repeat' (first | (with_reducible exact Below.refl _ _) | (with_reducible assumption) | (with_reducible refine below_more ?_ ?_ _) | (with_reducible refine below_drewN ?_ _) | (with_reducible refine Below.drew ?_) | (with_reducible refine Below.alloc ?_ ?_ _) | (with_reducible refine Below.setCell ?_ ?_ _) | go_size))⟩
theorem sets6_any (f f' x y : Int) (t t' : ByteArray) (w : World) (hy : 0 ≤ y) (hy1 : y < 4294967296) :
    Calls Try.prog 109 #[.agg #[.int .i64 f, .int .i64 x, .string t], .agg #[.int .i64 f', .int .i64 y, .string t']] w fun e w' => e = .returned (Sp.R (Sp.inF x y)) ∧ ∃ g, w' = more w g := by
  by_cases h0 : x < 0
  · go_enter Try.func109, Try.ntmps109
    go_wp2
    go_returns
    exact ⟨by simp [Sp.inF, h0], more_of_below (by repeat' (first | (with_reducible exact Below.refl _ _) | (with_reducible assumption) | (with_reducible refine below_more ?_ ?_ _) | (with_reducible refine below_drewN ?_ _) | (with_reducible refine Below.drew ?_) | (with_reducible refine Below.alloc ?_ ?_ _) | (with_reducible refine Below.setCell ?_ ?_ _) | go_size))⟩
  · by_cases h1 : 31 < x
    · go_enter Try.func109, Try.ntmps109
      go_wp2
      go_returns
      exact ⟨by simp [Sp.inF, h1], more_of_below (by repeat' (first | (with_reducible exact Below.refl _ _) | (with_reducible assumption) | (with_reducible refine below_more ?_ ?_ _) | (with_reducible refine below_drewN ?_ _) | (with_reducible refine Below.drew ?_) | (with_reducible refine Below.alloc ?_ ?_ _) | (with_reducible refine Below.setCell ?_ ?_ _) | go_size))⟩
    · obtain ⟨k, rfl⟩ := Int.eq_ofNat_of_zero_le (show 0 ≤ x by omega)
      have h3 : k < 32 := by omega
      have hp := Sp.pow_bd k (by omega)
      have ha := and_one (y / 2 ^ k) (Int.ediv_nonneg hy (by omega)) (by have := Int.ediv_le_self (2 ^ k) hy; omega)
      go_enter Try.func109, Try.ntmps109
      go_wp2_with (first | (go_at_call 53; refine (truth_any _ _).mono ?_; rintro e w' ⟨rfl, g, rfl⟩))
      go_returns
      exact ⟨by simp [Sp.inF, h1, show ¬ (k : Int) < 0 from by omega, show ¬ 31 < (k : Int) from by omega], more_of_below (by repeat' (first | (with_reducible exact Below.refl _ _) | (with_reducible assumption) | (with_reducible refine below_more ?_ ?_ _) | (with_reducible refine below_drewN ?_ _) | (with_reducible refine Below.drew ?_) | (with_reducible refine Below.alloc ?_ ?_ _) | (with_reducible refine Below.setCell ?_ ?_ _) | go_size))⟩
theorem rel1_any (n : Int) (w : World) :
    Calls Try.prog 110 #[.int .i64 n] w fun e w' => e = .returned (.bool (Sp.rel [61] n).1) ∧ w = w' := by
  go_enter Try.func110, Try.ntmps110
  go_wp2
  all_goals
    go_ret
    exact ⟨by simp [Sp.rel], rfl⟩
set_option maxRecDepth 100000 in
theorem rel7_1 (p : Nat) (f f' x y : Int) (t t' : ByteArray) (w : World) (hx : -4294967296 ≤ x ∧ x < 4294967297) (hy : -4294967296 ≤ y ∧ y < 4294967297) (hp : w.cell? ⟨p, 0, none⟩ = some (.func (.func 110) #[] #[])) (hl : p < w.heap.size) :
    Calls Try.prog 116 #[.agg #[.int .i64 f, .int .i64 x, .string t], .agg #[.int .i64 f', .int .i64 y, .string t'], .pointer (some ⟨p, 0, none⟩)] w fun e w' => e = .returned (Sp.R (2, Sp.tn (Sp.rel [61] (if f = 6 then Lib.compareBytes t.data.toList t'.data.toList else x - y)).1, 0)) ∧ ∃ g, w' = more w g := by
  have hl1 : p < w.heap.size + 1 := by omega
  have hl2 : p < w.heap.size + 1 + 1 := by omega
  by_cases h6 : f = 6
  · subst h6
    rw [if_pos rfl]
    go_enter Try.func116, Try.ntmps116
    go_wp2_with fail
    refine region_tail 7 (by kernel_rfl) (by kernel_rfl) ?_
    simp only [List.take_succ_cons, List.take_zero, List.drop_succ_cons, List.drop_zero]
    iterate 5 still_step
    still_call (Try.strings_Compare _ _ _)
    still_call (sym (rel1_any _ _))
    refine wpStill_nil ?_
    go_wp2_with (first | (go_at_call 53; refine (truth_any _ _).mono ?_; rintro e w' ⟨rfl, g, rfl⟩))
    go_returns
    exact ⟨rfl, more_of_below (by repeat' (first | (with_reducible exact Below.refl _ _) | (with_reducible assumption) | (with_reducible refine below_more ?_ ?_ _) | (with_reducible refine below_drewN ?_ _) | (with_reducible refine Below.drew ?_) | (with_reducible refine Below.alloc ?_ ?_ _) | (with_reducible refine Below.setCell ?_ ?_ _) | go_size))⟩
  · have h6' : (f == 6) = false := by simp [h6]
    rw [if_neg h6]
    clear h6
    go_enter Try.func116, Try.ntmps116
    go_wp2_with (first | (go_at_call 110; refine (rel1_any _ _).mono ?_; rintro e w' ⟨rfl, rfl⟩) | (go_at_call 53; refine (truth_any _ _).mono ?_; rintro e w' ⟨rfl, g, rfl⟩))
    go_returns
    exact ⟨rfl, more_of_below (by repeat' (first | (with_reducible exact Below.refl _ _) | (with_reducible assumption) | (with_reducible refine below_more ?_ ?_ _) | (with_reducible refine below_drewN ?_ _) | (with_reducible refine Below.drew ?_) | (with_reducible refine Below.alloc ?_ ?_ _) | (with_reducible refine Below.setCell ?_ ?_ _) | go_size))⟩
theorem rel2_any (n : Int) (w : World) :
    Calls Try.prog 111 #[.int .i64 n] w fun e w' => e = .returned (.bool (Sp.rel [35] n).1) ∧ w = w' := by
  go_enter Try.func111, Try.ntmps111
  go_wp2
  all_goals
    go_ret
    exact ⟨by simp [Sp.rel], rfl⟩
set_option maxRecDepth 100000 in
theorem rel7_2 (p : Nat) (f f' x y : Int) (t t' : ByteArray) (w : World) (hx : -4294967296 ≤ x ∧ x < 4294967297) (hy : -4294967296 ≤ y ∧ y < 4294967297) (hp : w.cell? ⟨p, 0, none⟩ = some (.func (.func 111) #[] #[])) (hl : p < w.heap.size) :
    Calls Try.prog 116 #[.agg #[.int .i64 f, .int .i64 x, .string t], .agg #[.int .i64 f', .int .i64 y, .string t'], .pointer (some ⟨p, 0, none⟩)] w fun e w' => e = .returned (Sp.R (2, Sp.tn (Sp.rel [35] (if f = 6 then Lib.compareBytes t.data.toList t'.data.toList else x - y)).1, 0)) ∧ ∃ g, w' = more w g := by
  have hl1 : p < w.heap.size + 1 := by omega
  have hl2 : p < w.heap.size + 1 + 1 := by omega
  by_cases h6 : f = 6
  · subst h6
    rw [if_pos rfl]
    go_enter Try.func116, Try.ntmps116
    go_wp2_with fail
    refine region_tail 7 (by kernel_rfl) (by kernel_rfl) ?_
    simp only [List.take_succ_cons, List.take_zero, List.drop_succ_cons, List.drop_zero]
    iterate 5 still_step
    still_call (Try.strings_Compare _ _ _)
    still_call (sym (rel2_any _ _))
    refine wpStill_nil ?_
    go_wp2_with (first | (go_at_call 53; refine (truth_any _ _).mono ?_; rintro e w' ⟨rfl, g, rfl⟩))
    go_returns
    exact ⟨rfl, more_of_below (by repeat' (first | (with_reducible exact Below.refl _ _) | (with_reducible assumption) | (with_reducible refine below_more ?_ ?_ _) | (with_reducible refine below_drewN ?_ _) | (with_reducible refine Below.drew ?_) | (with_reducible refine Below.alloc ?_ ?_ _) | (with_reducible refine Below.setCell ?_ ?_ _) | go_size))⟩
  · have h6' : (f == 6) = false := by simp [h6]
    rw [if_neg h6]
    clear h6
    go_enter Try.func116, Try.ntmps116
    go_wp2_with (first | (go_at_call 111; refine (rel2_any _ _).mono ?_; rintro e w' ⟨rfl, rfl⟩) | (go_at_call 53; refine (truth_any _ _).mono ?_; rintro e w' ⟨rfl, g, rfl⟩))
    go_returns
    exact ⟨rfl, more_of_below (by repeat' (first | (with_reducible exact Below.refl _ _) | (with_reducible assumption) | (with_reducible refine below_more ?_ ?_ _) | (with_reducible refine below_drewN ?_ _) | (with_reducible refine Below.drew ?_) | (with_reducible refine Below.alloc ?_ ?_ _) | (with_reducible refine Below.setCell ?_ ?_ _) | go_size))⟩
theorem rel3_any (n : Int) (w : World) :
    Calls Try.prog 112 #[.int .i64 n] w fun e w' => e = .returned (.bool (Sp.rel [60] n).1) ∧ w = w' := by
  go_enter Try.func112, Try.ntmps112
  go_wp2
  all_goals
    go_ret
    exact ⟨by simp [Sp.rel], rfl⟩
set_option maxRecDepth 100000 in
theorem rel7_3 (p : Nat) (f f' x y : Int) (t t' : ByteArray) (w : World) (hx : -4294967296 ≤ x ∧ x < 4294967297) (hy : -4294967296 ≤ y ∧ y < 4294967297) (hp : w.cell? ⟨p, 0, none⟩ = some (.func (.func 112) #[] #[])) (hl : p < w.heap.size) :
    Calls Try.prog 116 #[.agg #[.int .i64 f, .int .i64 x, .string t], .agg #[.int .i64 f', .int .i64 y, .string t'], .pointer (some ⟨p, 0, none⟩)] w fun e w' => e = .returned (Sp.R (2, Sp.tn (Sp.rel [60] (if f = 6 then Lib.compareBytes t.data.toList t'.data.toList else x - y)).1, 0)) ∧ ∃ g, w' = more w g := by
  have hl1 : p < w.heap.size + 1 := by omega
  have hl2 : p < w.heap.size + 1 + 1 := by omega
  by_cases h6 : f = 6
  · subst h6
    rw [if_pos rfl]
    go_enter Try.func116, Try.ntmps116
    go_wp2_with fail
    refine region_tail 7 (by kernel_rfl) (by kernel_rfl) ?_
    simp only [List.take_succ_cons, List.take_zero, List.drop_succ_cons, List.drop_zero]
    iterate 5 still_step
    still_call (Try.strings_Compare _ _ _)
    still_call (sym (rel3_any _ _))
    refine wpStill_nil ?_
    go_wp2_with (first | (go_at_call 53; refine (truth_any _ _).mono ?_; rintro e w' ⟨rfl, g, rfl⟩))
    go_returns
    exact ⟨rfl, more_of_below (by repeat' (first | (with_reducible exact Below.refl _ _) | (with_reducible assumption) | (with_reducible refine below_more ?_ ?_ _) | (with_reducible refine below_drewN ?_ _) | (with_reducible refine Below.drew ?_) | (with_reducible refine Below.alloc ?_ ?_ _) | (with_reducible refine Below.setCell ?_ ?_ _) | go_size))⟩
  · have h6' : (f == 6) = false := by simp [h6]
    rw [if_neg h6]
    clear h6
    go_enter Try.func116, Try.ntmps116
    go_wp2_with (first | (go_at_call 112; refine (rel3_any _ _).mono ?_; rintro e w' ⟨rfl, rfl⟩) | (go_at_call 53; refine (truth_any _ _).mono ?_; rintro e w' ⟨rfl, g, rfl⟩))
    go_returns
    exact ⟨rfl, more_of_below (by repeat' (first | (with_reducible exact Below.refl _ _) | (with_reducible assumption) | (with_reducible refine below_more ?_ ?_ _) | (with_reducible refine below_drewN ?_ _) | (with_reducible refine Below.drew ?_) | (with_reducible refine Below.alloc ?_ ?_ _) | (with_reducible refine Below.setCell ?_ ?_ _) | go_size))⟩
theorem rel4_any (n : Int) (w : World) :
    Calls Try.prog 113 #[.int .i64 n] w fun e w' => e = .returned (.bool (Sp.rel [60, 61] n).1) ∧ w = w' := by
  go_enter Try.func113, Try.ntmps113
  go_wp2
  all_goals
    go_ret
    exact ⟨by simp [Sp.rel], rfl⟩
set_option maxRecDepth 100000 in
theorem rel7_4 (p : Nat) (f f' x y : Int) (t t' : ByteArray) (w : World) (hx : -4294967296 ≤ x ∧ x < 4294967297) (hy : -4294967296 ≤ y ∧ y < 4294967297) (hp : w.cell? ⟨p, 0, none⟩ = some (.func (.func 113) #[] #[])) (hl : p < w.heap.size) :
    Calls Try.prog 116 #[.agg #[.int .i64 f, .int .i64 x, .string t], .agg #[.int .i64 f', .int .i64 y, .string t'], .pointer (some ⟨p, 0, none⟩)] w fun e w' => e = .returned (Sp.R (2, Sp.tn (Sp.rel [60, 61] (if f = 6 then Lib.compareBytes t.data.toList t'.data.toList else x - y)).1, 0)) ∧ ∃ g, w' = more w g := by
  have hl1 : p < w.heap.size + 1 := by omega
  have hl2 : p < w.heap.size + 1 + 1 := by omega
  by_cases h6 : f = 6
  · subst h6
    rw [if_pos rfl]
    go_enter Try.func116, Try.ntmps116
    go_wp2_with fail
    refine region_tail 7 (by kernel_rfl) (by kernel_rfl) ?_
    simp only [List.take_succ_cons, List.take_zero, List.drop_succ_cons, List.drop_zero]
    iterate 5 still_step
    still_call (Try.strings_Compare _ _ _)
    still_call (sym (rel4_any _ _))
    refine wpStill_nil ?_
    go_wp2_with (first | (go_at_call 53; refine (truth_any _ _).mono ?_; rintro e w' ⟨rfl, g, rfl⟩))
    go_returns
    exact ⟨rfl, more_of_below (by repeat' (first | (with_reducible exact Below.refl _ _) | (with_reducible assumption) | (with_reducible refine below_more ?_ ?_ _) | (with_reducible refine below_drewN ?_ _) | (with_reducible refine Below.drew ?_) | (with_reducible refine Below.alloc ?_ ?_ _) | (with_reducible refine Below.setCell ?_ ?_ _) | go_size))⟩
  · have h6' : (f == 6) = false := by simp [h6]
    rw [if_neg h6]
    clear h6
    go_enter Try.func116, Try.ntmps116
    go_wp2_with (first | (go_at_call 113; refine (rel4_any _ _).mono ?_; rintro e w' ⟨rfl, rfl⟩) | (go_at_call 53; refine (truth_any _ _).mono ?_; rintro e w' ⟨rfl, g, rfl⟩))
    go_returns
    exact ⟨rfl, more_of_below (by repeat' (first | (with_reducible exact Below.refl _ _) | (with_reducible assumption) | (with_reducible refine below_more ?_ ?_ _) | (with_reducible refine below_drewN ?_ _) | (with_reducible refine Below.drew ?_) | (with_reducible refine Below.alloc ?_ ?_ _) | (with_reducible refine Below.setCell ?_ ?_ _) | go_size))⟩
theorem rel5_any (n : Int) (w : World) :
    Calls Try.prog 114 #[.int .i64 n] w fun e w' => e = .returned (.bool (Sp.rel [62] n).1) ∧ w = w' := by
  go_enter Try.func114, Try.ntmps114
  go_wp2
  all_goals
    go_ret
    exact ⟨by simp [Sp.rel], rfl⟩
set_option maxRecDepth 100000 in
theorem rel7_5 (p : Nat) (f f' x y : Int) (t t' : ByteArray) (w : World) (hx : -4294967296 ≤ x ∧ x < 4294967297) (hy : -4294967296 ≤ y ∧ y < 4294967297) (hp : w.cell? ⟨p, 0, none⟩ = some (.func (.func 114) #[] #[])) (hl : p < w.heap.size) :
    Calls Try.prog 116 #[.agg #[.int .i64 f, .int .i64 x, .string t], .agg #[.int .i64 f', .int .i64 y, .string t'], .pointer (some ⟨p, 0, none⟩)] w fun e w' => e = .returned (Sp.R (2, Sp.tn (Sp.rel [62] (if f = 6 then Lib.compareBytes t.data.toList t'.data.toList else x - y)).1, 0)) ∧ ∃ g, w' = more w g := by
  have hl1 : p < w.heap.size + 1 := by omega
  have hl2 : p < w.heap.size + 1 + 1 := by omega
  by_cases h6 : f = 6
  · subst h6
    rw [if_pos rfl]
    go_enter Try.func116, Try.ntmps116
    go_wp2_with fail
    refine region_tail 7 (by kernel_rfl) (by kernel_rfl) ?_
    simp only [List.take_succ_cons, List.take_zero, List.drop_succ_cons, List.drop_zero]
    iterate 5 still_step
    still_call (Try.strings_Compare _ _ _)
    still_call (sym (rel5_any _ _))
    refine wpStill_nil ?_
    go_wp2_with (first | (go_at_call 53; refine (truth_any _ _).mono ?_; rintro e w' ⟨rfl, g, rfl⟩))
    go_returns
    exact ⟨rfl, more_of_below (by repeat' (first | (with_reducible exact Below.refl _ _) | (with_reducible assumption) | (with_reducible refine below_more ?_ ?_ _) | (with_reducible refine below_drewN ?_ _) | (with_reducible refine Below.drew ?_) | (with_reducible refine Below.alloc ?_ ?_ _) | (with_reducible refine Below.setCell ?_ ?_ _) | go_size))⟩
  · have h6' : (f == 6) = false := by simp [h6]
    rw [if_neg h6]
    clear h6
    go_enter Try.func116, Try.ntmps116
    go_wp2_with (first | (go_at_call 114; refine (rel5_any _ _).mono ?_; rintro e w' ⟨rfl, rfl⟩) | (go_at_call 53; refine (truth_any _ _).mono ?_; rintro e w' ⟨rfl, g, rfl⟩))
    go_returns
    exact ⟨rfl, more_of_below (by repeat' (first | (with_reducible exact Below.refl _ _) | (with_reducible assumption) | (with_reducible refine below_more ?_ ?_ _) | (with_reducible refine below_drewN ?_ _) | (with_reducible refine Below.drew ?_) | (with_reducible refine Below.alloc ?_ ?_ _) | (with_reducible refine Below.setCell ?_ ?_ _) | go_size))⟩
theorem rel6_any (n : Int) (w : World) :
    Calls Try.prog 115 #[.int .i64 n] w fun e w' => e = .returned (.bool (Sp.rel [62, 61] n).1) ∧ w = w' := by
  go_enter Try.func115, Try.ntmps115
  go_wp2
  all_goals
    go_ret
    exact ⟨by simp [Sp.rel], rfl⟩
set_option maxRecDepth 100000 in
theorem rel7_6 (p : Nat) (f f' x y : Int) (t t' : ByteArray) (w : World) (hx : -4294967296 ≤ x ∧ x < 4294967297) (hy : -4294967296 ≤ y ∧ y < 4294967297) (hp : w.cell? ⟨p, 0, none⟩ = some (.func (.func 115) #[] #[])) (hl : p < w.heap.size) :
    Calls Try.prog 116 #[.agg #[.int .i64 f, .int .i64 x, .string t], .agg #[.int .i64 f', .int .i64 y, .string t'], .pointer (some ⟨p, 0, none⟩)] w fun e w' => e = .returned (Sp.R (2, Sp.tn (Sp.rel [62, 61] (if f = 6 then Lib.compareBytes t.data.toList t'.data.toList else x - y)).1, 0)) ∧ ∃ g, w' = more w g := by
  have hl1 : p < w.heap.size + 1 := by omega
  have hl2 : p < w.heap.size + 1 + 1 := by omega
  by_cases h6 : f = 6
  · subst h6
    rw [if_pos rfl]
    go_enter Try.func116, Try.ntmps116
    go_wp2_with fail
    refine region_tail 7 (by kernel_rfl) (by kernel_rfl) ?_
    simp only [List.take_succ_cons, List.take_zero, List.drop_succ_cons, List.drop_zero]
    iterate 5 still_step
    still_call (Try.strings_Compare _ _ _)
    still_call (sym (rel6_any _ _))
    refine wpStill_nil ?_
    go_wp2_with (first | (go_at_call 53; refine (truth_any _ _).mono ?_; rintro e w' ⟨rfl, g, rfl⟩))
    go_returns
    exact ⟨rfl, more_of_below (by repeat' (first | (with_reducible exact Below.refl _ _) | (with_reducible assumption) | (with_reducible refine below_more ?_ ?_ _) | (with_reducible refine below_drewN ?_ _) | (with_reducible refine Below.drew ?_) | (with_reducible refine Below.alloc ?_ ?_ _) | (with_reducible refine Below.setCell ?_ ?_ _) | go_size))⟩
  · have h6' : (f == 6) = false := by simp [h6]
    rw [if_neg h6]
    clear h6
    go_enter Try.func116, Try.ntmps116
    go_wp2_with (first | (go_at_call 115; refine (rel6_any _ _).mono ?_; rintro e w' ⟨rfl, rfl⟩) | (go_at_call 53; refine (truth_any _ _).mono ?_; rintro e w' ⟨rfl, g, rfl⟩))
    go_returns
    exact ⟨rfl, more_of_below (by repeat' (first | (with_reducible exact Below.refl _ _) | (with_reducible assumption) | (with_reducible refine below_more ?_ ?_ _) | (with_reducible refine below_drewN ?_ _) | (with_reducible refine Below.drew ?_) | (with_reducible refine Below.alloc ?_ ?_ _) | (with_reducible refine Below.setCell ?_ ?_ _) | go_size))⟩
theorem two1_any (x y : Int) (w : World) (hx : x = 0 ∨ x = 1) (hy : y = 0 ∨ y = 1) :
    Calls Try.prog 50 #[.int .i64 x, .int .i64 y] w fun e w' => e = .returned (.int .i64 (Sp.tn (Sp.boolF [38] x y))) ∧ w = w' := by
  rcases hx with rfl | rfl <;> rcases hy with rfl | rfl
  all_goals
    go_enter Try.func50, Try.ntmps50
    go_wp2
    go_ret
    exact ⟨ret_int (by decide +kernel), rfl⟩
theorem two3_1 (p : Nat) (f f' x y : Int) (t t' : ByteArray) (w : World) (hx : x = 0 ∨ x = 1) (hy : y = 0 ∨ y = 1) (hp : w.cell? ⟨p, 0, none⟩ = some (.func (.func 50) #[] #[])) (hl : p < w.heap.size) :
    Calls Try.prog 52 #[.agg #[.int .i64 f, .int .i64 x, .string t], .agg #[.int .i64 f', .int .i64 y, .string t'], .pointer (some ⟨p, 0, none⟩)] w fun e w' => e = .returned (Sp.R (2, Sp.tn (Sp.boolF [38] x y), 0)) ∧ ∃ g, w' = more w g := by
  have hl1 : p < w.heap.size + 1 := by omega
  have hl2 : p < w.heap.size + 1 + 1 := by omega
  have HB := two1_any x y (hx := hx) (hy := hy)
  generalize hb : Sp.boolF [38] x y = b at *
  clear hx hy
  cases b
  all_goals
    have hd : (Sp.tn false == 1) = false := rfl
    have ht : (Sp.tn true == 1) = true := rfl
    have HC := fun w => (HB w)
    have HX := Lib.hid HC
    clear HC HB
    go_enter Try.func52, Try.ntmps52
    go_wp2_with (first | (go_at_call 50; refine (HX.out _).mono ?_; rintro e w' ⟨rfl, rfl⟩) | (go_at_call 53; refine (truth_any _ _).mono ?_; rintro e w' ⟨rfl, g, rfl⟩))
    go_returns
    exact ⟨rfl, more_of_below (by repeat' (first | (with_reducible exact Below.refl _ _) | (with_reducible assumption) | (with_reducible refine below_more ?_ ?_ _) | (with_reducible refine below_drewN ?_ _) | (with_reducible refine Below.drew ?_) | (with_reducible refine Below.alloc ?_ ?_ _) | (with_reducible refine Below.setCell ?_ ?_ _) | go_size))⟩
theorem two2_any (x y : Int) (w : World) (hx : x = 0 ∨ x = 1) (hy : y = 0 ∨ y = 1) :
    Calls Try.prog 51 #[.int .i64 x, .int .i64 y] w fun e w' => e = .returned (.int .i64 (Sp.tn (Sp.boolF [79, 82] x y))) ∧ w = w' := by
  rcases hx with rfl | rfl <;> rcases hy with rfl | rfl
  all_goals
    go_enter Try.func51, Try.ntmps51
    go_wp2
    go_ret
    exact ⟨ret_int (by decide +kernel), rfl⟩
theorem two3_2 (p : Nat) (f f' x y : Int) (t t' : ByteArray) (w : World) (hx : x = 0 ∨ x = 1) (hy : y = 0 ∨ y = 1) (hp : w.cell? ⟨p, 0, none⟩ = some (.func (.func 51) #[] #[])) (hl : p < w.heap.size) :
    Calls Try.prog 52 #[.agg #[.int .i64 f, .int .i64 x, .string t], .agg #[.int .i64 f', .int .i64 y, .string t'], .pointer (some ⟨p, 0, none⟩)] w fun e w' => e = .returned (Sp.R (2, Sp.tn (Sp.boolF [79, 82] x y), 0)) ∧ ∃ g, w' = more w g := by
  have hl1 : p < w.heap.size + 1 := by omega
  have hl2 : p < w.heap.size + 1 + 1 := by omega
  have HB := two2_any x y (hx := hx) (hy := hy)
  generalize hb : Sp.boolF [79, 82] x y = b at *
  clear hx hy
  cases b
  all_goals
    have hd : (Sp.tn false == 1) = false := rfl
    have ht : (Sp.tn true == 1) = true := rfl
    have HC := fun w => (HB w)
    have HX := Lib.hid HC
    clear HC HB
    go_enter Try.func52, Try.ntmps52
    go_wp2_with (first | (go_at_call 51; refine (HX.out _).mono ?_; rintro e w' ⟨rfl, rfl⟩) | (go_at_call 53; refine (truth_any _ _).mono ?_; rintro e w' ⟨rfl, g, rfl⟩))
    go_returns
    exact ⟨rfl, more_of_below (by repeat' (first | (with_reducible exact Below.refl _ _) | (with_reducible assumption) | (with_reducible refine below_more ?_ ?_ _) | (with_reducible refine below_drewN ?_ _) | (with_reducible refine Below.drew ?_) | (with_reducible refine Below.alloc ?_ ?_ _) | (with_reducible refine Below.setCell ?_ ?_ _) | go_size))⟩
end Go.Proofs.Ythcpedonpiihnaa
